-- Written by a program of this place (wip/gen.py) with the kit's print; not trusted: Lean checks it.
import Derived.Test.YtploigkfnkgjiaaPDx0
namespace Go.Proofs.Ytploigkfnkgjiaa.PD
open Go.RowKit Go.Proofs.YtploigkfnkgjiaaW.PrintWords Go.Proofs.YtploigkfnkgjiaaW.PrintLast Go.Proofs.YtploigkfnkgjiaaW.PrintMore
attribute [local go_sem] max2_int min2_int max_two min_two max_three min_three max_four min_four   -- for this text's walks alone
set_option linter.unusedVariables false
set_option linter.unusedSimpArgs false

/-! ### vinculumref03_Read: function 27 -/
mutual
def vinculumref03_Read.j0 : Nat → List Int → Int → Bool → Option (Int × Int × ByteArray × (List (S24)) × Int)
  | 0, _, _, _ => none
  | k + 1, x0, x1, x26 => if x26 = true then (some (0, 0, (⟨#[]⟩ : ByteArray), ([] : List (S24)), 0)) else (if 0 < (x0.length : Int) then (if (IntKind.u64.wrap (Int.tmod (rd x0 0) 64)) ≥ 56 then (if (x0.length : Int) < (wrap64 (1 + (wrap64 ((wrap64 (IntKind.u64.wrap (Int.tmod (rd x0 0) 64))) - 55)))) then (vinculumref03_Read.j1 k x0 x1 (wrap64 ((wrap64 (IntKind.u64.wrap (Int.tmod (rd x0 0) 64))) - 55)) true (wrap64 (Int.tdiv (wrap64 (rd x0 0)) 64)) 0 (⟨#[]⟩ : ByteArray)) else (if 1 < (x0.length : Int) then (vinculumref03_Read.j1 k x0 x1 (wrap64 ((wrap64 (IntKind.u64.wrap (Int.tmod (rd x0 0) 64))) - 55)) ((rd x0 1) == 0) (wrap64 (Int.tdiv (wrap64 (rd x0 0)) 64)) 0 (⟨#[]⟩ : ByteArray)) else (none))) else (vinculumref03_Read.j3 k x0 x1 (IntKind.u64.wrap (Int.tmod (rd x0 0) 64)) 1 (wrap64 (Int.tdiv (wrap64 (rd x0 0)) 64)) 0 (⟨#[]⟩ : ByteArray))) else (none))
def vinculumref03_Read.j3 : Nat → List Int → Int → Int → Int → Int → Int → ByteArray → Option (Int × Int × ByteArray × (List (S24)) × Int)
  | 0, _, _, _, _, _, _, _ => none
  | k + 1, x0, x1, x7, x8, x132000, x132001, x132002 => if x132000 = 1 then (if (Int.tmod x7 2) = 1 then (some (x132000, wrap64 ((wrap64 (-(wrap64 (IntKind.u64.wrap (Int.tdiv x7 2))))) - 1), x132002, ([] : List (S24)), x8)) else (some (x132000, wrap64 (IntKind.u64.wrap (Int.tdiv x7 2)), x132002, ([] : List (S24)), x8))) else (if x132000 = 2 then (if x7 > (IntKind.u64.wrap (wrap64 ((x0.length : Int) - x8))) then (some (0, 0, (⟨#[]⟩ : ByteArray), ([] : List (S24)), 0)) else (if 0 ≤ x8 then (if x8 ≤ (wrap64 (x8 + (wrap64 (x7)))) then (if (wrap64 (x8 + (wrap64 (x7)))) ≤ (x0.length : Int) then (some (x132000, x132001, strOfNums ((x0.take ((wrap64 (x8 + (wrap64 (x7)))) : Int).toNat).drop (x8 : Int).toNat), ([] : List (S24)), wrap64 (x8 + (wrap64 (x7))))) else (none)) else (none)) else (none))) else (if x7 > (IntKind.u64.wrap (wrap64 ((x0.length : Int) - x8))) then (some (0, 0, (⟨#[]⟩ : ByteArray), ([] : List (S24)), 0)) else (vinculumref03_Read.l1 k x0 x1 x7 x8 0 x132000 x132001 x132002 ([] : List (S24)))))
def vinculumref03_Read.l1 : Nat → List Int → Int → Int → Int → Int → Int → Int → ByteArray → List (S24) → Option (Int × Int × ByteArray × (List (S24)) × Int)
  | 0, _, _, _, _, _, _, _, _, _ => none
  | k + 1, x0, x1, x7, x8, x11, x132000, x132001, x132002, x132003 => if x11 < (wrap64 (x7)) then (if 0 ≤ x8 then (if x8 ≤ (x0.length : Int) then ((vinculumref03_Read.f k (x0.drop (x8 : Int).toNat) (wrap64 (x1 - 1))).bind fun bt137 => (if bt137.2.2.2.2 = 0 then (some (0, 0, (⟨#[]⟩ : ByteArray), ([] : List (S24)), 0)) else (if x132003.length < 2513169434916 then (vinculumref03_Read.l1 k x0 x1 x7 (wrap64 (x8 + bt137.2.2.2.2)) (wrap64 (x11 + 1)) x132000 x132001 x132002 (x132003 ++ [(⟨bt137.1, bt137.2.1, bt137.2.2.1, bt137.2.2.2.1⟩ : S24)])) else (none)))) else (none)) else (none)) else (some (x132000, x132001, x132002, x132003, x8))
def vinculumref03_Read.j1 : Nat → List Int → Int → Int → Bool → Int → Int → ByteArray → Option (Int × Int × ByteArray × (List (S24)) × Int)
  | 0, _, _, _, _, _, _, _ => none
  | k + 1, x0, x1, x9, x54, x132000, x132001, x132002 => if x54 = true then (some (0, 0, (⟨#[]⟩ : ByteArray), ([] : List (S24)), 0)) else (vinculumref03_Read.l0 k x0 x1 0 (wrap64 (1 + x9)) x9 1 x132000 x132001 x132002)
def vinculumref03_Read.l0 : Nat → List Int → Int → Int → Int → Int → Int → Int → Int → ByteArray → Option (Int × Int × ByteArray × (List (S24)) × Int)
  | 0, _, _, _, _, _, _, _, _, _ => none
  | k + 1, x0, x1, x7, x8, x9, x10, x132000, x132001, x132002 => if x10 ≤ x9 then (if 0 ≤ x10 then (if x10 < (x0.length : Int) then (vinculumref03_Read.l0 k x0 x1 (IntKind.u64.wrap ((IntKind.u64.wrap (256 * x7)) + (IntKind.u64.wrap (rd x0 x10)))) x8 x9 (wrap64 (x10 + 1)) x132000 x132001 x132002) else (none)) else (none)) else (if x7 < 56 then (some (0, 0, (⟨#[]⟩ : ByteArray), ([] : List (S24)), 0)) else (vinculumref03_Read.j3 k x0 x1 x7 x8 x132000 x132001 x132002))
def vinculumref03_Read.f : Nat → List Int → Int → Option (Int × Int × ByteArray × (List (S24)) × Int)
  | 0, _, _ => none
  | k + 1, l0, a1 => if (l0.length : Int) = 0 then (vinculumref03_Read.j0 k l0 a1 true) else (if a1 = 0 then (vinculumref03_Read.j0 k l0 a1 true) else (if 0 < (l0.length : Int) then (vinculumref03_Read.j0 k l0 a1 (decide ((rd l0 0) < 64))) else (none)))
end
theorem vinculumref03_Read.mono_l : ∀ k, (∀ y0 y1, LeO (vinculumref03_Read.f k y0 y1) (vinculumref03_Read.f (k + 1) y0 y1)) ∧ (∀ y0 y1 y2, LeO (vinculumref03_Read.j0 k y0 y1 y2) (vinculumref03_Read.j0 (k + 1) y0 y1 y2)) ∧ (∀ y0 y1 y2 y3 y4 y5 y6, LeO (vinculumref03_Read.j3 k y0 y1 y2 y3 y4 y5 y6) (vinculumref03_Read.j3 (k + 1) y0 y1 y2 y3 y4 y5 y6)) ∧ (∀ y0 y1 y2 y3 y4 y5 y6 y7 y8, LeO (vinculumref03_Read.l1 k y0 y1 y2 y3 y4 y5 y6 y7 y8) (vinculumref03_Read.l1 (k + 1) y0 y1 y2 y3 y4 y5 y6 y7 y8)) ∧ (∀ y0 y1 y2 y3 y4 y5 y6, LeO (vinculumref03_Read.j1 k y0 y1 y2 y3 y4 y5 y6) (vinculumref03_Read.j1 (k + 1) y0 y1 y2 y3 y4 y5 y6)) ∧ (∀ y0 y1 y2 y3 y4 y5 y6 y7 y8, LeO (vinculumref03_Read.l0 k y0 y1 y2 y3 y4 y5 y6 y7 y8) (vinculumref03_Read.l0 (k + 1) y0 y1 y2 y3 y4 y5 y6 y7 y8))
  | 0 => ⟨fun _ _ r h => by simp [vinculumref03_Read.f] at h, fun _ _ _ r h => by simp [vinculumref03_Read.j0] at h, fun _ _ _ _ _ _ _ r h => by simp [vinculumref03_Read.j3] at h, fun _ _ _ _ _ _ _ _ _ r h => by simp [vinculumref03_Read.l1] at h, fun _ _ _ _ _ _ _ r h => by simp [vinculumref03_Read.j1] at h, fun _ _ _ _ _ _ _ _ _ r h => by simp [vinculumref03_Read.l0] at h⟩
  | k + 1 => by
    obtain ⟨ih0, ih1, ih2, ih3, ih4, ih5⟩ := vinculumref03_Read.mono_l k
    refine ⟨?_, ?_, ?_, ?_, ?_, ?_⟩
    · intro y0 y1
      unfold vinculumref03_Read.f
      repeat' first
      | (with_reducible exact ih0 _ _)
      | (with_reducible exact ih1 _ _ _)
      | (with_reducible exact ih2 _ _ _ _ _ _ _)
      | (with_reducible exact ih3 _ _ _ _ _ _ _ _ _)
      | (with_reducible exact ih4 _ _ _ _ _ _ _)
      | (with_reducible exact ih5 _ _ _ _ _ _ _ _ _)
      | (with_reducible exact LeO.refl _)
      | (with_reducible exact LeO.none _)
      | (with_reducible refine LeO.ite ?_ ?_)
      | (with_reducible refine LeO.bind ?_ (fun _ => ?_))
      | exact ih0 _ _
      | exact ih1 _ _ _
      | exact ih2 _ _ _ _ _ _ _
      | exact ih3 _ _ _ _ _ _ _ _ _
      | exact ih4 _ _ _ _ _ _ _
      | exact ih5 _ _ _ _ _ _ _ _ _
      | exact LeO.none _
      | refine LeO.ite ?_ ?_
      | refine LeO.bind ?_ (fun _ => ?_)
    · intro y0 y1 y2
      unfold vinculumref03_Read.j0
      repeat' first
      | (with_reducible exact ih0 _ _)
      | (with_reducible exact ih1 _ _ _)
      | (with_reducible exact ih2 _ _ _ _ _ _ _)
      | (with_reducible exact ih3 _ _ _ _ _ _ _ _ _)
      | (with_reducible exact ih4 _ _ _ _ _ _ _)
      | (with_reducible exact ih5 _ _ _ _ _ _ _ _ _)
      | (with_reducible exact LeO.refl _)
      | (with_reducible exact LeO.none _)
      | (with_reducible refine LeO.ite ?_ ?_)
      | (with_reducible refine LeO.bind ?_ (fun _ => ?_))
      | exact ih0 _ _
      | exact ih1 _ _ _
      | exact ih2 _ _ _ _ _ _ _
      | exact ih3 _ _ _ _ _ _ _ _ _
      | exact ih4 _ _ _ _ _ _ _
      | exact ih5 _ _ _ _ _ _ _ _ _
      | exact LeO.none _
      | refine LeO.ite ?_ ?_
      | refine LeO.bind ?_ (fun _ => ?_)
    · intro y0 y1 y2 y3 y4 y5 y6
      unfold vinculumref03_Read.j3
      repeat' first
      | (with_reducible exact ih0 _ _)
      | (with_reducible exact ih1 _ _ _)
      | (with_reducible exact ih2 _ _ _ _ _ _ _)
      | (with_reducible exact ih3 _ _ _ _ _ _ _ _ _)
      | (with_reducible exact ih4 _ _ _ _ _ _ _)
      | (with_reducible exact ih5 _ _ _ _ _ _ _ _ _)
      | (with_reducible exact LeO.refl _)
      | (with_reducible exact LeO.none _)
      | (with_reducible refine LeO.ite ?_ ?_)
      | (with_reducible refine LeO.bind ?_ (fun _ => ?_))
      | exact ih0 _ _
      | exact ih1 _ _ _
      | exact ih2 _ _ _ _ _ _ _
      | exact ih3 _ _ _ _ _ _ _ _ _
      | exact ih4 _ _ _ _ _ _ _
      | exact ih5 _ _ _ _ _ _ _ _ _
      | exact LeO.none _
      | refine LeO.ite ?_ ?_
      | refine LeO.bind ?_ (fun _ => ?_)
    · intro y0 y1 y2 y3 y4 y5 y6 y7 y8
      unfold vinculumref03_Read.l1
      repeat' first
      | (with_reducible exact ih0 _ _)
      | (with_reducible exact ih1 _ _ _)
      | (with_reducible exact ih2 _ _ _ _ _ _ _)
      | (with_reducible exact ih3 _ _ _ _ _ _ _ _ _)
      | (with_reducible exact ih4 _ _ _ _ _ _ _)
      | (with_reducible exact ih5 _ _ _ _ _ _ _ _ _)
      | (with_reducible exact LeO.refl _)
      | (with_reducible exact LeO.none _)
      | (with_reducible refine LeO.ite ?_ ?_)
      | (with_reducible refine LeO.bind ?_ (fun _ => ?_))
      | exact ih0 _ _
      | exact ih1 _ _ _
      | exact ih2 _ _ _ _ _ _ _
      | exact ih3 _ _ _ _ _ _ _ _ _
      | exact ih4 _ _ _ _ _ _ _
      | exact ih5 _ _ _ _ _ _ _ _ _
      | exact LeO.none _
      | refine LeO.ite ?_ ?_
      | refine LeO.bind ?_ (fun _ => ?_)
    · intro y0 y1 y2 y3 y4 y5 y6
      unfold vinculumref03_Read.j1
      repeat' first
      | (with_reducible exact ih0 _ _)
      | (with_reducible exact ih1 _ _ _)
      | (with_reducible exact ih2 _ _ _ _ _ _ _)
      | (with_reducible exact ih3 _ _ _ _ _ _ _ _ _)
      | (with_reducible exact ih4 _ _ _ _ _ _ _)
      | (with_reducible exact ih5 _ _ _ _ _ _ _ _ _)
      | (with_reducible exact LeO.refl _)
      | (with_reducible exact LeO.none _)
      | (with_reducible refine LeO.ite ?_ ?_)
      | (with_reducible refine LeO.bind ?_ (fun _ => ?_))
      | exact ih0 _ _
      | exact ih1 _ _ _
      | exact ih2 _ _ _ _ _ _ _
      | exact ih3 _ _ _ _ _ _ _ _ _
      | exact ih4 _ _ _ _ _ _ _
      | exact ih5 _ _ _ _ _ _ _ _ _
      | exact LeO.none _
      | refine LeO.ite ?_ ?_
      | refine LeO.bind ?_ (fun _ => ?_)
    · intro y0 y1 y2 y3 y4 y5 y6 y7 y8
      unfold vinculumref03_Read.l0
      repeat' first
      | (with_reducible exact ih0 _ _)
      | (with_reducible exact ih1 _ _ _)
      | (with_reducible exact ih2 _ _ _ _ _ _ _)
      | (with_reducible exact ih3 _ _ _ _ _ _ _ _ _)
      | (with_reducible exact ih4 _ _ _ _ _ _ _)
      | (with_reducible exact ih5 _ _ _ _ _ _ _ _ _)
      | (with_reducible exact LeO.refl _)
      | (with_reducible exact LeO.none _)
      | (with_reducible refine LeO.ite ?_ ?_)
      | (with_reducible refine LeO.bind ?_ (fun _ => ?_))
      | exact ih0 _ _
      | exact ih1 _ _ _
      | exact ih2 _ _ _ _ _ _ _
      | exact ih3 _ _ _ _ _ _ _ _ _
      | exact ih4 _ _ _ _ _ _ _
      | exact ih5 _ _ _ _ _ _ _ _ _
      | exact LeO.none _
      | refine LeO.ite ?_ ?_
      | refine LeO.bind ?_ (fun _ => ?_)
theorem vinculumref03_Read.mono : ∀ a0 a1 k, LeO (vinculumref03_Read.f k a0 a1) (vinculumref03_Read.f (k + 1) a0 a1) := by
  intro a0 a1 k
  obtain ⟨ih0, ih1, ih2, ih3, ih4, ih5⟩ := vinculumref03_Read.mono_l k
  exact ih0 a0 a1
set_option maxHeartbeats 8000000 in
set_option maxRecDepth 100000 in
theorem vinculumref03_Read.calls (k : Nat) : ∀ (A0 : Option Addr) (c0 : Nat) (l0 : List Int) (a1 : Int) (r1 : Int) (r2 : Int) (r3 : ByteArray) (r4 : List (S24)) (r5 : Int) (w : World) (hr0 : Kd.C (Kd.int .u8) w A0 l0.length l0) (hc0 : l0.length ≤ c0) (h : vinculumref03_Read.f k l0 a1 = some (r1, r2, r3, r4, r5)),
    Calls Try.prog 27 #[.slice A0 l0.length c0, .int .i64 a1] w fun e w' => ∃ v3_ : Value, e = .returned (.tuple #[.agg #[.int .i64 r1, .int .i64 r2, .string r3, v3_], .int .i64 r5]) ∧ Kd.R k24 24 w' w.heap.size (fun _ => True) v3_ r4 ∧ Below w.heap.size w w' := by
  induction k using Nat.strongRecOn with
  | _ k ih =>
  intro A0 c0 l0 a1 r1 r2 r3 r4 r5 w hr0 hc0 h
  cases k with
  | zero => exact absurd h (by simp [vinculumref03_Read.f])
  | succ k =>
  simp only [vinculumref03_Read.f] at h
  have hu24 := Try.underlying24
  have HR0 := Aside0.mk hr0
  have HC0 := Aside0.mk hc0
  clear hr0 hc0
  have HB := Aside0.mk (Below.refl w.heap.size w)
  have H : (if (l0.length : Int) = 0 then (vinculumref03_Read.j0 k l0 a1 true) else (if a1 = 0 then (vinculumref03_Read.j0 k l0 a1 true) else (if 0 < (l0.length : Int) then (vinculumref03_Read.j0 k l0 a1 (decide ((rd l0 0) < 64))) else (none)))) = some (r1, r2, r3, r4, r5) := h
  clear h
  have HC3 := Aside0.mk H
  clear H
  go_enter Try.func27, Try.ntmps27
  go_upto_region 1 with (first | ((with_reducible refine gate_dst (N := 4) rfl ?_); refine box_event ?hg (N := 4) ?hd (cs := #[.int .i64 0, .int .i64 0, .string (⟨#[]⟩ : ByteArray), .slice none 0 0]) (t := 24) ?hr ?_; (case hd => rfl); (case hg => rfl); (case hr => first | (go_simp; done) | (go_simp; rfl)); intro gb128 hg w4 hbox hb; have n0_ := Aside0.mk (below_step (by repeat (first | (with_reducible first | exact HB.out | apply below_alloc | apply pw_below_drewN | apply below_drew1) | exact HB.out)) hb); have n1_ := Aside0.mk (hbox); have n2_ := Aside0.mk ((by rw [hg]; exact (below_size (by repeat (first | (with_reducible first | exact HB.out | apply below_alloc | apply pw_below_drewN | apply below_drew1) | exact HB.out))) : w.heap.size ≤ gb128)); have n3_ := Aside0.mk ((by rw [hg]; exact (below_size (by repeat (first | (with_reducible first | exact HB.out | apply below_alloc | apply pw_below_drewN | apply below_drew1) | exact HB.out))) : w.heap.size ≤ gb128)); clear HB; have HB := n0_; have BK128 := n1_; have GW128 := n2_; have GE128 := n3_; clear n0_ n1_ n2_ n3_; clear hb hbox hg))
  (try simp only [Act.put, List.setIfInBounds_toArray, List.set_cons_zero, List.set_cons_succ])
  go_cut [26] (fun v26 wc => ∃ (kq : Nat) (x26_2 : Bool), v26 = .bool x26_2 ∧ Aside0 (vinculumref03_Read.j0 kq l0 a1 x26_2 = some (r1, r2, r3, r4, r5)) ∧ Aside0 (kq ≤ k) ∧ Aside0 (wc.heap[gb128]? = some (.cells #[.int .i64 0, .int .i64 0, .string (⟨#[]⟩ : ByteArray), (.slice none 0 0)] 24 (0, 0))) ∧ Aside0 (Below w.heap.size w wc))
  case first =>
    have H := HC3.out
    clear HC3
    by_cases c5 : (l0.length : Int) = 0
    · rw [if_pos c5] at H
      have c5b0 : ((l0.length : Int) == 0) = true := beq_iff_eq.mpr c5
      have c5b1 : ((l0.length : Int) != 0) = false := bne_eq_false_iff_eq.mpr c5
      clear c5
      (first | rw [c5b0] | (simp only [i64_w, i32_w]; rw [c5b0]) | skip)
      have H' := Aside0.mk H
      clear H
      go_wp2
      go_meet
      case rel => exact ⟨_, (true), (by first | rfl | (simp; done) | (simp [*]; done) | (simp [ne_nil_bool]; done)), H', ⟨by first | omega | exact Nat.le_refl _⟩, ⟨by (with_reducible repeat (first | refine blk_drewN ?_ _ | refine blk_drew ?_ | refine blk_alloc ?_ _)); exact BK128.out⟩, ⟨by repeat (first | (with_reducible first | exact HB.out | apply below_alloc | apply pw_below_drewN | apply below_drew1 | refine below_set ?_ GE128.out) | exact HB.out)⟩⟩
    · rw [if_neg c5] at H
      have c5b0 : ((l0.length : Int) == 0) = false := beq_eq_false_iff_ne.mpr c5
      have c5b1 : ((l0.length : Int) != 0) = true := bne_iff_ne.mpr c5
      have c5b2 : ¬ (l0 = []) := fun h_ => c5 (by rw [h_]; rfl)
      (first | rw [c5b0] | (simp only [i64_w, i32_w]; rw [c5b0]) | skip)
      by_cases c6 : a1 = 0
      · rw [if_pos c6] at H
        have c6b0 : (a1 == 0) = true := beq_iff_eq.mpr c6
        have c6b1 : (a1 != 0) = false := bne_eq_false_iff_eq.mpr c6
        clear c6
        have H' := Aside0.mk H
        clear H
        go_wp2
        go_meet
        case rel => exact ⟨_, (true), (by first | rfl | (simp; done) | (simp [*]; done) | (simp [ne_nil_bool]; done)), H', ⟨by first | omega | exact Nat.le_refl _⟩, ⟨by (with_reducible repeat (first | refine blk_drewN ?_ _ | refine blk_drew ?_ | refine blk_alloc ?_ _)); exact BK128.out⟩, ⟨by repeat (first | (with_reducible first | exact HB.out | apply below_alloc | apply pw_below_drewN | apply below_drew1 | refine below_set ?_ GE128.out) | exact HB.out)⟩⟩
      · rw [if_neg c6] at H
        have c6b0 : (a1 == 0) = false := beq_eq_false_iff_ne.mpr c6
        have c6b1 : (a1 != 0) = true := bne_iff_ne.mpr c6
        by_cases c7 : 0 < (l0.length : Int)
        · rw [if_pos c7] at H
          have c7b0 : decide (0 < (l0.length : Int)) = true := decide_eq_true c7
          have c7b1 : decide (0 < l0.length) = true := decide_eq_true (by omega)
          clear c7
          have H' := Aside0.mk H
          clear H
          have p129 : 0 ≤ (0 : Int) := (by omega)
          have q129 : 0 < (l0.length : Int) := of_decide_eq_true (by first | (with_reducible assumption) | assumption)
          obtain ⟨ad129, e129, hx129_0⟩ := Kd.at_int HR0.out 0 p129 q129
          cases e129
          have qi129 : (0 < l0.length) = True := eq_true (by omega)
          (try rw [show ((0 : Int)).toNat = 0 from rfl] at hx129_0)
          (try rw [Addr.add_zero'] at hx129_0)
          replace hx129_0 := (HB.out.cell (World.block_lt_of_cell? w _ hx129_0)).trans hx129_0
          replace p129 := eq_true p129
          replace q129 := eq_true q129
          go_wp2
          go_meet
          case rel => exact ⟨_, (decide ((rd l0 0) < 64)), (by first | rfl | (simp; done) | (simp [*]; done) | (simp [ne_nil_bool]; done)), H', ⟨by first | omega | exact Nat.le_refl _⟩, ⟨by (with_reducible repeat (first | refine blk_drewN ?_ _ | refine blk_drew ?_ | refine blk_alloc ?_ _)); exact BK128.out⟩, ⟨by repeat (first | (with_reducible first | exact HB.out | apply below_alloc | apply pw_below_drewN | apply below_drew1 | refine below_set ?_ GE128.out) | exact HB.out)⟩⟩
        · rw [if_neg c7] at H
          exact absurd H (by simp)
  case rest =>
    clear HC3
    try clear p1
    try clear q1
    try clear hx1
    try clear qi1
    try clear c2
    try clear p2
    try clear c5
    try clear c5b0
    try clear c5b1
    try clear c5b2
    try clear c6
    try clear c6b0
    try clear c6b1
    try clear c7
    try clear c7b0
    try clear c7b1
    try clear hx129_0
    try clear p129
    try clear q129
    obtain ⟨kq, x26_2, rfl, HA, HJ2, BK128, HB⟩ := hcut
    cases kq with
    | zero => exact absurd HA.out (by simp [vinculumref03_Read.j0])
    | succ kj2 =>
      have H := HA.out
      clear HA
      simp only [vinculumref03_Read.j0] at H
      by_cases c8 : x26_2 = true
      · subst c8
        have H1 : (some (0, 0, (⟨#[]⟩ : ByteArray), ([] : List (S24)), 0)) = some (r1, r2, r3, r4, r5) := by rw [if_pos rfl] at H; exact H
        clear H
        have H := H1
        clear H1
        simp only [Option.some.injEq, Prod.mk.injEq] at H
        obtain ⟨rfl, rfl, rfl, rfl, rfl⟩ := H
        have hcz9_0 : wc.cell? ⟨gb128, 0, none⟩ = some (.int .i64 0) := (blk_cell BK128.out 0).trans rfl
        have hcz9_1 : wc.cell? ⟨gb128, 1, none⟩ = some (.int .i64 0) := (blk_cell BK128.out 1).trans rfl
        have hcz9_2 : wc.cell? ⟨gb128, 2, none⟩ = some (.string (⟨#[]⟩ : ByteArray)) := (blk_cell BK128.out 2).trans rfl
        have hcz9_3 : wc.cell? ⟨gb128, 3, none⟩ = some (.slice none 0 0) := (blk_cell BK128.out 3).trans rfl
        have hfz9_0 := blk_frozen BK128.out 0
        have hfz9_1 := blk_frozen BK128.out 1
        have hfz9_2 := blk_frozen BK128.out 2
        have hfz9_3 := blk_frozen BK128.out 3
        go_wp2
        refine bodyPost_ret (results_ct rfl _ _ gb128 24 #[.int .i64 0, .int .i64 0, .string (⟨#[]⟩ : ByteArray), .slice none 0 0] (0, 0) _ rfl (by (with_reducible repeat (first | refine blk_drewN ?_ _ | refine blk_drew ?_ | refine blk_alloc ?_ _)); refine blk_put (cs := #[.int .i64 0, .int .i64 0, .string (⟨#[]⟩ : ByteArray), .slice none 0 0]) ?_ 3 _ rfl; (with_reducible repeat (first | refine blk_drewN ?_ _ | refine blk_drew ?_ | refine blk_alloc ?_ _)); refine blk_put (cs := #[.int .i64 0, .int .i64 0, .string (⟨#[]⟩ : ByteArray), .slice none 0 0]) ?_ 2 _ rfl; (with_reducible repeat (first | refine blk_drewN ?_ _ | refine blk_drew ?_ | refine blk_alloc ?_ _)); refine blk_put (cs := #[.int .i64 0, .int .i64 0, .string (⟨#[]⟩ : ByteArray), .slice none 0 0]) ?_ 1 _ rfl; (with_reducible repeat (first | refine blk_drewN ?_ _ | refine blk_drew ?_ | refine blk_alloc ?_ _)); refine blk_put (cs := #[.int .i64 0, .int .i64 0, .string (⟨#[]⟩ : ByteArray), .slice none 0 0]) ?_ 0 _ rfl; (with_reducible repeat (first | refine blk_drewN ?_ _ | refine blk_drew ?_ | refine blk_alloc ?_ _)); exact BK128.out) Try.underlying24 rfl (by kernel_rfl)) rfl ?_
        exact ⟨_, by first | rfl | (simp [errW_none, errW_some] <;> rfl) | (simp [*, errW_none, errW_some] <;> rfl), by first | exact Kd.R_nil _ _ _ _ _ | exact Kd.N_nil _ _ _ _ _ | exact Kd.V_nil _ _ _ _ _ | exact Kd.Q_nil _ _ _ _ _ | exact Kd.S_nil _ _ _ _ _, by repeat (first | (with_reducible first | exact HB.out | apply below_alloc | apply pw_below_drewN | apply below_drew1 | refine below_set ?_ GE128.out) | exact HB.out)⟩
      · replace c8 := Bool.eq_false_iff.mpr c8
        subst c8
        have H1 : (if 0 < (l0.length : Int) then (if (IntKind.u64.wrap (Int.tmod (rd l0 0) 64)) ≥ 56 then (if (l0.length : Int) < (wrap64 (1 + (wrap64 ((wrap64 (IntKind.u64.wrap (Int.tmod (rd l0 0) 64))) - 55)))) then (vinculumref03_Read.j1 kj2 l0 a1 (wrap64 ((wrap64 (IntKind.u64.wrap (Int.tmod (rd l0 0) 64))) - 55)) true (wrap64 (Int.tdiv (wrap64 (rd l0 0)) 64)) 0 (⟨#[]⟩ : ByteArray)) else (if 1 < (l0.length : Int) then (vinculumref03_Read.j1 kj2 l0 a1 (wrap64 ((wrap64 (IntKind.u64.wrap (Int.tmod (rd l0 0) 64))) - 55)) ((rd l0 1) == 0) (wrap64 (Int.tdiv (wrap64 (rd l0 0)) 64)) 0 (⟨#[]⟩ : ByteArray)) else (none))) else (vinculumref03_Read.j3 kj2 l0 a1 (IntKind.u64.wrap (Int.tmod (rd l0 0) 64)) 1 (wrap64 (Int.tdiv (wrap64 (rd l0 0)) 64)) 0 (⟨#[]⟩ : ByteArray))) else (none)) = some (r1, r2, r3, r4, r5) := by rw [if_neg (show ¬ (false = true) by decide)] at H; exact H
        clear H
        have H := H1
        clear H1
        by_cases c10 : 0 < (l0.length : Int)
        · rw [if_pos c10] at H
          have c10b0 : decide (0 < (l0.length : Int)) = true := decide_eq_true c10
          have c10b1 : decide (0 < l0.length) = true := decide_eq_true (by omega)
          clear c10
          have HC11 := Aside0.mk H
          clear H
          have p130 : 0 ≤ (0 : Int) := (by omega)
          have q130 : 0 < (l0.length : Int) := of_decide_eq_true (by first | (with_reducible assumption) | assumption)
          obtain ⟨ad130, e130, hx130_0⟩ := Kd.at_int HR0.out 0 p130 q130
          cases e130
          have qi130 : (0 < l0.length) = True := eq_true (by omega)
          (try rw [show ((0 : Int)).toNat = 0 from rfl] at hx130_0)
          (try rw [Addr.add_zero'] at hx130_0)
          replace hx130_0 := (HB.out.cell (World.block_lt_of_cell? w _ hx130_0)).trans hx130_0
          replace p130 := eq_true p130
          replace q130 := eq_true q130
          go_upto_if 40 with (first | ((with_reducible refine gate_dst (N := 6) rfl ?_); refine box_event ?hg (N := 6) ?hd (cs := #[.int .i64 0, .int .i64 0, .string (⟨#[]⟩ : ByteArray), .slice none 0 0]) (t := 24) ?hr ?_; (case hd => rfl); (case hg => rfl); (case hr => first | (go_simp; done) | (go_simp; rfl)); intro gb131 hg w12 hbox hb; have n0_ := Aside0.mk (blk_below (g := gb128) (o := .cells #[.int .i64 0, .int .i64 0, .string (⟨#[]⟩ : ByteArray), .slice none 0 0] 24 (0, 0)) (by (with_reducible repeat (first | refine blk_drewN ?_ _ | refine blk_drew ?_ | refine blk_alloc ?_ _)); exact BK128.out) hb); have n1_ := Aside0.mk (below_step (by repeat (first | (with_reducible first | exact HB.out | apply below_alloc | apply pw_below_drewN | apply below_drew1 | refine below_set ?_ GE128.out) | exact HB.out)) hb); have n2_ := Aside0.mk (hbox); have n3_ := Aside0.mk ((by rw [hg]; exact (below_size (by repeat (first | (with_reducible first | exact HB.out | apply below_alloc | apply pw_below_drewN | apply below_drew1 | refine below_set ?_ GE128.out) | exact HB.out))) : w.heap.size ≤ gb131)); have n4_ := Aside0.mk ((by rw [hg]; exact (below_size (by repeat (first | (with_reducible first | exact HB.out | apply below_alloc | apply pw_below_drewN | apply below_drew1 | refine below_set ?_ GE128.out) | exact HB.out))) : w.heap.size ≤ gb131)); have n5_ := Aside0.mk ((by rw [hg]; exact Nat.ne_of_lt (blk_lt (g := gb128) (o := .cells #[.int .i64 0, .int .i64 0, .string (⟨#[]⟩ : ByteArray), .slice none 0 0] 24 (0, 0)) (by (with_reducible repeat (first | refine blk_drewN ?_ _ | refine blk_drew ?_ | refine blk_alloc ?_ _)); exact BK128.out)) : gb128 ≠ gb131)); have n6_ := Aside0.mk ((by rw [hg]; exact Nat.ne_of_gt (blk_lt (g := gb128) (o := .cells #[.int .i64 0, .int .i64 0, .string (⟨#[]⟩ : ByteArray), .slice none 0 0] 24 (0, 0)) (by (with_reducible repeat (first | refine blk_drewN ?_ _ | refine blk_drew ?_ | refine blk_alloc ?_ _)); exact BK128.out)) : gb131 ≠ gb128)); clear BK128; clear HB; have BK128 := n0_; have HB := n1_; have BK131 := n2_; have GW131 := n3_; have GE131 := n4_; have NB128_131 := n5_; have NB131_128 := n6_; clear n0_ n1_ n2_ n3_ n4_ n5_ n6_; clear hb hbox hg; have hnb13 := NB131_128.out; have hnc13 := NB128_131.out; have hcz14_0 : w12.cell? ⟨gb131, 0, none⟩ = some (.int .i64 0) := (blk_cell BK131.out 0).trans rfl; have hcz14_1 : w12.cell? ⟨gb131, 1, none⟩ = some (.int .i64 0) := (blk_cell BK131.out 1).trans rfl; have hcz14_2 : w12.cell? ⟨gb131, 2, none⟩ = some (.string (⟨#[]⟩ : ByteArray)) := (blk_cell BK131.out 2).trans rfl; have hcz14_3 : w12.cell? ⟨gb131, 3, none⟩ = some (.slice none 0 0) := (blk_cell BK131.out 3).trans rfl; have hfz14_0 := blk_frozen BK131.out 0; have hfz14_1 := blk_frozen BK131.out 1; have hfz14_2 := blk_frozen BK131.out 2; have hfz14_3 := blk_frozen BK131.out 3; have p132 : 0 ≤ (0 : Int) := (by omega); have q132 : 0 < (l0.length : Int) := of_decide_eq_true (by first | (with_reducible assumption) | assumption); obtain ⟨ad132, e132, hx132_0⟩ := Kd.at_int HR0.out 0 p132 q132; obtain rfl : ad130 = ad132 := (by injection e132); have qi132 : (0 < l0.length) = True := eq_true (by omega); (try rw [show ((0 : Int)).toNat = 0 from rfl] at hx132_0); (try rw [Addr.add_zero'] at hx132_0); have hn132_0 : ad130.block ≠ gb131 := Nat.ne_of_lt (Nat.lt_of_lt_of_le (by have := World.block_lt_of_cell? _ _ hx132_0; first | rwa [add_block] at this | exact this) GW131.out); have hn132_1 : ad130.block ≠ gb131 := Nat.ne_of_lt (Nat.lt_of_lt_of_le (by have := World.block_lt_of_cell? _ _ hx132_0; first | rwa [add_block] at this | exact this) GW131.out); have hn132_2 : ad130.block ≠ gb131 := Nat.ne_of_lt (Nat.lt_of_lt_of_le (by have := World.block_lt_of_cell? _ _ hx132_0; first | rwa [add_block] at this | exact this) GW131.out); have hn132_3 : ad130.block ≠ gb131 := Nat.ne_of_lt (Nat.lt_of_lt_of_le (by have := World.block_lt_of_cell? _ _ hx132_0; first | rwa [add_block] at this | exact this) GW131.out); replace hx132_0 := (HB.out.cell (World.block_lt_of_cell? w _ hx132_0)).trans hx132_0; replace hx132_0 := (cell_far (p := ⟨gb131, 0, none⟩) (by first | (rw [add_block]; exact hn132_0) | (show (Addr.add _ _).block ≠ _; rw [add_block]; exact hn132_0) | exact hn132_0) (.int .i64 (wrap64 (Int.tdiv (wrap64 (rd l0 0)) 64)))).trans hx132_0; replace hx132_0 := (cell_far (p := ⟨gb131, 1, none⟩) (by first | (rw [add_block]; exact hn132_1) | (show (Addr.add _ _).block ≠ _; rw [add_block]; exact hn132_1) | exact hn132_1) (.int .i64 0)).trans hx132_0; replace hx132_0 := (cell_far (p := ⟨gb131, 2, none⟩) (by first | (rw [add_block]; exact hn132_2) | (show (Addr.add _ _).block ≠ _; rw [add_block]; exact hn132_2) | exact hn132_2) (.string (⟨#[]⟩ : ByteArray))).trans hx132_0; replace hx132_0 := (cell_far (p := ⟨gb131, 3, none⟩) (by first | (rw [add_block]; exact hn132_3) | (show (Addr.add _ _).block ≠ _; rw [add_block]; exact hn132_3) | exact hn132_3) (.slice none 0 0)).trans hx132_0; clear hn132_0; clear hn132_1; clear hn132_2; clear hn132_3; replace p132 := eq_true p132; replace q132 := eq_true q132))
          (try simp only [Act.put, List.setIfInBounds_toArray, List.set_cons_zero, List.set_cons_succ])
          go_cut [7, 8] (fun v7 v8 wc => ∃ (kq : Nat) (x7_10 : Int) (x8_10 : Int) (x129000_10 : Int) (x129001_10 : Int) (x129002_10 : ByteArray), v7 = .int .u64 x7_10 ∧ v8 = .int .i64 x8_10 ∧ Aside0 (vinculumref03_Read.j3 kq l0 a1 x7_10 x8_10 (wrap64 (Int.tdiv (wrap64 (rd l0 0)) 64)) 0 (⟨#[]⟩ : ByteArray) = some (r1, r2, r3, r4, r5)) ∧ Aside0 (kq ≤ kj2) ∧ Aside0 (wc.heap[gb128]? = some (.cells #[.int .i64 x129000_10, .int .i64 x129001_10, .string x129002_10, (.slice none 0 0)] 24 (0, 0))) ∧ Aside0 (wc.heap[gb131]? = some (.cells #[.int .i64 (wrap64 (Int.tdiv (wrap64 (rd l0 0)) 64)), .int .i64 0, .string (⟨#[]⟩ : ByteArray), (.slice none 0 0)] 24 (0, 0))) ∧ Aside0 (Below w.heap.size w wc))
          case first =>
            have H := HC11.out
            clear HC11
            by_cases c15 : (IntKind.u64.wrap (Int.tmod (rd l0 0) 64)) ≥ 56
            · rw [if_pos c15] at H
              have c15b0 : decide (56 ≤ (IntKind.u64.wrap (Int.tmod (rd l0 0) 64))) = true := decide_eq_true c15
              clear c15
              (first | rw [c15b0] | (simp only [i64_w, i32_w]; rw [c15b0]) | skip)
              have HC16 := Aside0.mk H
              clear H
              go_upto_region 7 with (fail)
              go_cut [54] (fun v54 wc => ∃ (kq : Nat) (x54_15 : Bool), v54 = .bool x54_15 ∧ Aside0 (vinculumref03_Read.j1 kq l0 a1 (wrap64 ((wrap64 (IntKind.u64.wrap (Int.tmod (rd l0 0) 64))) - 55)) x54_15 (wrap64 (Int.tdiv (wrap64 (rd l0 0)) 64)) 0 (⟨#[]⟩ : ByteArray) = some (r1, r2, r3, r4, r5)) ∧ Aside0 (kq ≤ kj2) ∧ Aside0 (wc.heap[gb128]? = some (.cells #[.int .i64 0, .int .i64 0, .string (⟨#[]⟩ : ByteArray), (.slice none 0 0)] 24 (0, 0))) ∧ Aside0 (wc.heap[gb131]? = some (.cells #[.int .i64 (wrap64 (Int.tdiv (wrap64 (rd l0 0)) 64)), .int .i64 0, .string (⟨#[]⟩ : ByteArray), (.slice none 0 0)] 24 (0, 0))) ∧ Aside0 (Below w.heap.size w wc))
              case first =>
                have H := HC16.out
                clear HC16
                by_cases c17 : (l0.length : Int) < (wrap64 (1 + (wrap64 ((wrap64 (IntKind.u64.wrap (Int.tmod (rd l0 0) 64))) - 55))))
                · rw [if_pos c17] at H
                  have c17b0 : decide ((l0.length : Int) < (wrap64 (1 + (wrap64 ((wrap64 (IntKind.u64.wrap (Int.tmod (rd l0 0) 64))) - 55))))) = true := decide_eq_true c17
                  clear c17
                  (first | rw [c17b0] | (simp only [i64_w, i32_w]; rw [c17b0]) | skip)
                  have H' := Aside0.mk H
                  clear H
                  go_wp2
                  go_meet
                  case rel => exact ⟨_, (true), (by first | rfl | (simp; done) | (simp [*]; done) | (simp [ne_nil_bool]; done)), H', ⟨by have := HJ2.out; first | omega | exact Nat.le_refl _⟩, ⟨by (with_reducible repeat (first | refine blk_drewN ?_ _ | refine blk_drew ?_ | refine blk_alloc ?_ _)); refine blk_far ?_ NB128_131.out _; (with_reducible repeat (first | refine blk_drewN ?_ _ | refine blk_drew ?_ | refine blk_alloc ?_ _)); refine blk_far ?_ NB128_131.out _; (with_reducible repeat (first | refine blk_drewN ?_ _ | refine blk_drew ?_ | refine blk_alloc ?_ _)); refine blk_far ?_ NB128_131.out _; (with_reducible repeat (first | refine blk_drewN ?_ _ | refine blk_drew ?_ | refine blk_alloc ?_ _)); refine blk_far ?_ NB128_131.out _; (with_reducible repeat (first | refine blk_drewN ?_ _ | refine blk_drew ?_ | refine blk_alloc ?_ _)); exact BK128.out⟩, ⟨by (with_reducible repeat (first | refine blk_drewN ?_ _ | refine blk_drew ?_ | refine blk_alloc ?_ _)); refine blk_put (cs := #[.int .i64 (wrap64 (Int.tdiv (wrap64 (rd l0 0)) 64)), .int .i64 0, .string (⟨#[]⟩ : ByteArray), .slice none 0 0]) ?_ 3 _ rfl; (with_reducible repeat (first | refine blk_drewN ?_ _ | refine blk_drew ?_ | refine blk_alloc ?_ _)); refine blk_put (cs := #[.int .i64 (wrap64 (Int.tdiv (wrap64 (rd l0 0)) 64)), .int .i64 0, .string (⟨#[]⟩ : ByteArray), .slice none 0 0]) ?_ 2 _ rfl; (with_reducible repeat (first | refine blk_drewN ?_ _ | refine blk_drew ?_ | refine blk_alloc ?_ _)); refine blk_put (cs := #[.int .i64 (wrap64 (Int.tdiv (wrap64 (rd l0 0)) 64)), .int .i64 0, .string (⟨#[]⟩ : ByteArray), .slice none 0 0]) ?_ 1 _ rfl; (with_reducible repeat (first | refine blk_drewN ?_ _ | refine blk_drew ?_ | refine blk_alloc ?_ _)); refine blk_put (cs := #[.int .i64 0, .int .i64 0, .string (⟨#[]⟩ : ByteArray), .slice none 0 0]) ?_ 0 _ rfl; (with_reducible repeat (first | refine blk_drewN ?_ _ | refine blk_drew ?_ | refine blk_alloc ?_ _)); exact BK131.out⟩, ⟨by repeat (first | (with_reducible first | exact HB.out | apply below_alloc | apply pw_below_drewN | apply below_drew1 | refine below_set ?_ GE128.out | refine below_set ?_ GE131.out) | exact HB.out)⟩⟩
                · rw [if_neg c17] at H
                  have c17b0 : decide ((l0.length : Int) < (wrap64 (1 + (wrap64 ((wrap64 (IntKind.u64.wrap (Int.tmod (rd l0 0) 64))) - 55))))) = false := decide_eq_false c17
                  clear c17
                  (first | rw [c17b0] | (simp only [i64_w, i32_w]; rw [c17b0]) | skip)
                  by_cases c18 : 1 < (l0.length : Int)
                  · rw [if_pos c18] at H
                    have c18b0 : decide (1 < (l0.length : Int)) = true := decide_eq_true c18
                    have c18b1 : decide (1 < l0.length) = true := decide_eq_true (by omega)
                    clear c18
                    have H' := Aside0.mk H
                    clear H
                    have p133 : 0 ≤ (1 : Int) := (by omega)
                    have q133 : 1 < (l0.length : Int) := of_decide_eq_true (by first | (with_reducible assumption) | assumption)
                    obtain ⟨ad133, e133, hx133_0⟩ := Kd.at_int HR0.out 1 p133 q133
                    obtain rfl : ad130 = ad133 := (by injection e133)
                    (try simp only [show (1 : Int).toNat = 1 from rfl, Nat.reduceMul, Nat.reduceEqDiff, Go.Addr.add, ↓reduceIte] at hx133_0)
                    have qi133 : (1 < l0.length) = True := eq_true (by omega)
                    (try rw [show ((1 : Int)).toNat = 1 from rfl] at hx133_0)
                    have hn133_0 : ad130.block ≠ gb131 := Nat.ne_of_lt (Nat.lt_of_lt_of_le (by have := World.block_lt_of_cell? _ _ hx133_0; first | rwa [add_block] at this | exact this) GW131.out)
                    have hn133_1 : ad130.block ≠ gb131 := Nat.ne_of_lt (Nat.lt_of_lt_of_le (by have := World.block_lt_of_cell? _ _ hx133_0; first | rwa [add_block] at this | exact this) GW131.out)
                    have hn133_2 : ad130.block ≠ gb131 := Nat.ne_of_lt (Nat.lt_of_lt_of_le (by have := World.block_lt_of_cell? _ _ hx133_0; first | rwa [add_block] at this | exact this) GW131.out)
                    have hn133_3 : ad130.block ≠ gb131 := Nat.ne_of_lt (Nat.lt_of_lt_of_le (by have := World.block_lt_of_cell? _ _ hx133_0; first | rwa [add_block] at this | exact this) GW131.out)
                    replace hx133_0 := (HB.out.cell (World.block_lt_of_cell? w _ hx133_0)).trans hx133_0
                    replace hx133_0 := (cell_far (p := ⟨gb131, 0, none⟩) (by first | (rw [add_block]; exact hn133_0) | (show (Addr.add _ _).block ≠ _; rw [add_block]; exact hn133_0) | exact hn133_0) (.int .i64 (wrap64 (Int.tdiv (wrap64 (rd l0 0)) 64)))).trans hx133_0
                    replace hx133_0 := (cell_far (p := ⟨gb131, 1, none⟩) (by first | (rw [add_block]; exact hn133_1) | (show (Addr.add _ _).block ≠ _; rw [add_block]; exact hn133_1) | exact hn133_1) (.int .i64 0)).trans hx133_0
                    replace hx133_0 := (cell_far (p := ⟨gb131, 2, none⟩) (by first | (rw [add_block]; exact hn133_2) | (show (Addr.add _ _).block ≠ _; rw [add_block]; exact hn133_2) | exact hn133_2) (.string (⟨#[]⟩ : ByteArray))).trans hx133_0
                    replace hx133_0 := (cell_far (p := ⟨gb131, 3, none⟩) (by first | (rw [add_block]; exact hn133_3) | (show (Addr.add _ _).block ≠ _; rw [add_block]; exact hn133_3) | exact hn133_3) (.slice none 0 0)).trans hx133_0
                    clear hn133_0
                    clear hn133_1
                    clear hn133_2
                    clear hn133_3
                    replace p133 := eq_true p133
                    replace q133 := eq_true q133
                    go_wp2
                    go_meet
                    case rel => exact ⟨_, (((rd l0 1) == 0)), (by first | rfl | (simp; done) | (simp [*]; done) | (simp [ne_nil_bool]; done)), H', ⟨by have := HJ2.out; first | omega | exact Nat.le_refl _⟩, ⟨by (with_reducible repeat (first | refine blk_drewN ?_ _ | refine blk_drew ?_ | refine blk_alloc ?_ _)); refine blk_far ?_ NB128_131.out _; (with_reducible repeat (first | refine blk_drewN ?_ _ | refine blk_drew ?_ | refine blk_alloc ?_ _)); refine blk_far ?_ NB128_131.out _; (with_reducible repeat (first | refine blk_drewN ?_ _ | refine blk_drew ?_ | refine blk_alloc ?_ _)); refine blk_far ?_ NB128_131.out _; (with_reducible repeat (first | refine blk_drewN ?_ _ | refine blk_drew ?_ | refine blk_alloc ?_ _)); refine blk_far ?_ NB128_131.out _; (with_reducible repeat (first | refine blk_drewN ?_ _ | refine blk_drew ?_ | refine blk_alloc ?_ _)); exact BK128.out⟩, ⟨by (with_reducible repeat (first | refine blk_drewN ?_ _ | refine blk_drew ?_ | refine blk_alloc ?_ _)); refine blk_put (cs := #[.int .i64 (wrap64 (Int.tdiv (wrap64 (rd l0 0)) 64)), .int .i64 0, .string (⟨#[]⟩ : ByteArray), .slice none 0 0]) ?_ 3 _ rfl; (with_reducible repeat (first | refine blk_drewN ?_ _ | refine blk_drew ?_ | refine blk_alloc ?_ _)); refine blk_put (cs := #[.int .i64 (wrap64 (Int.tdiv (wrap64 (rd l0 0)) 64)), .int .i64 0, .string (⟨#[]⟩ : ByteArray), .slice none 0 0]) ?_ 2 _ rfl; (with_reducible repeat (first | refine blk_drewN ?_ _ | refine blk_drew ?_ | refine blk_alloc ?_ _)); refine blk_put (cs := #[.int .i64 (wrap64 (Int.tdiv (wrap64 (rd l0 0)) 64)), .int .i64 0, .string (⟨#[]⟩ : ByteArray), .slice none 0 0]) ?_ 1 _ rfl; (with_reducible repeat (first | refine blk_drewN ?_ _ | refine blk_drew ?_ | refine blk_alloc ?_ _)); refine blk_put (cs := #[.int .i64 0, .int .i64 0, .string (⟨#[]⟩ : ByteArray), .slice none 0 0]) ?_ 0 _ rfl; (with_reducible repeat (first | refine blk_drewN ?_ _ | refine blk_drew ?_ | refine blk_alloc ?_ _)); exact BK131.out⟩, ⟨by repeat (first | (with_reducible first | exact HB.out | apply below_alloc | apply pw_below_drewN | apply below_drew1 | refine below_set ?_ GE128.out | refine below_set ?_ GE131.out) | exact HB.out)⟩⟩
                  · rw [if_neg c18] at H
                    exact absurd H (by simp)
              case rest =>
                clear HC16
                try clear c1
                try clear p1
                try clear q1
                try clear hx1
                try clear qi1
                try clear c2
                try clear p2
                try clear c5
                try clear c5b0
                try clear c5b1
                try clear c5b2
                try clear c6
                try clear c6b0
                try clear c6b1
                try clear p6
                try clear c7
                try clear c7b0
                try clear c7b1
                try clear c8
                try clear c10
                try clear c10b0
                try clear c10b1
                try clear p12
                try clear q12
                try clear hx12
                try clear qi12
                try clear c13
                try clear p13
                try clear q13
                try clear hx13
                try clear qi13
                try clear c15
                try clear c15b0
                try clear c17
                try clear c17b0
                try clear c18
                try clear c18b0
                try clear c18b1
                try clear hcz14_0
                try clear hcz14_1
                try clear hcz14_2
                try clear hcz14_3
                try clear hcz9_0
                try clear hcz9_1
                try clear hcz9_2
                try clear hcz9_3
                try clear hfz14_0
                try clear hfz14_1
                try clear hfz14_2
                try clear hfz14_3
                try clear hfz9_0
                try clear hfz9_1
                try clear hfz9_2
                try clear hfz9_3
                try clear hx129_0
                try clear hx130_0
                try clear hx132_0
                try clear hx133_0
                try clear p1
                try clear p129
                try clear p130
                try clear p132
                try clear p133
                try clear p2
                try clear q1
                try clear q129
                try clear q130
                try clear q132
                try clear q133
                obtain ⟨kq, x54_15, rfl, HA, HJ15, BK128, BK131, HB⟩ := hcut
                cases kq with
                | zero => exact absurd HA.out (by simp [vinculumref03_Read.j1])
                | succ kj15 =>
                  have H := HA.out
                  clear HA
                  simp only [vinculumref03_Read.j1] at H
                  by_cases c19 : x54_15 = true
                  · subst c19
                    have H1 : (some (0, 0, (⟨#[]⟩ : ByteArray), ([] : List (S24)), 0)) = some (r1, r2, r3, r4, r5) := by rw [if_pos rfl] at H; exact H
                    clear H
                    have H := H1
                    clear H1
                    simp only [Option.some.injEq, Prod.mk.injEq] at H
                    obtain ⟨rfl, rfl, rfl, rfl, rfl⟩ := H
                    have hnb20 := NB128_131.out
                    have hnc20 := NB131_128.out
                    have hcz21_0 : wc.cell? ⟨gb128, 0, none⟩ = some (.int .i64 0) := (blk_cell BK128.out 0).trans rfl
                    have hcz21_1 : wc.cell? ⟨gb128, 1, none⟩ = some (.int .i64 0) := (blk_cell BK128.out 1).trans rfl
                    have hcz21_2 : wc.cell? ⟨gb128, 2, none⟩ = some (.string (⟨#[]⟩ : ByteArray)) := (blk_cell BK128.out 2).trans rfl
                    have hcz21_3 : wc.cell? ⟨gb128, 3, none⟩ = some (.slice none 0 0) := (blk_cell BK128.out 3).trans rfl
                    have hfz21_0 := blk_frozen BK128.out 0
                    have hfz21_1 := blk_frozen BK128.out 1
                    have hfz21_2 := blk_frozen BK128.out 2
                    have hfz21_3 := blk_frozen BK128.out 3
                    go_wp2
                    refine bodyPost_ret (results_ct rfl _ _ gb128 24 #[.int .i64 0, .int .i64 0, .string (⟨#[]⟩ : ByteArray), .slice none 0 0] (0, 0) _ rfl (by (with_reducible repeat (first | refine blk_drewN ?_ _ | refine blk_drew ?_ | refine blk_alloc ?_ _)); refine blk_put (cs := #[.int .i64 0, .int .i64 0, .string (⟨#[]⟩ : ByteArray), .slice none 0 0]) ?_ 3 _ rfl; (with_reducible repeat (first | refine blk_drewN ?_ _ | refine blk_drew ?_ | refine blk_alloc ?_ _)); refine blk_put (cs := #[.int .i64 0, .int .i64 0, .string (⟨#[]⟩ : ByteArray), .slice none 0 0]) ?_ 2 _ rfl; (with_reducible repeat (first | refine blk_drewN ?_ _ | refine blk_drew ?_ | refine blk_alloc ?_ _)); refine blk_put (cs := #[.int .i64 0, .int .i64 0, .string (⟨#[]⟩ : ByteArray), .slice none 0 0]) ?_ 1 _ rfl; (with_reducible repeat (first | refine blk_drewN ?_ _ | refine blk_drew ?_ | refine blk_alloc ?_ _)); refine blk_put (cs := #[.int .i64 0, .int .i64 0, .string (⟨#[]⟩ : ByteArray), .slice none 0 0]) ?_ 0 _ rfl; (with_reducible repeat (first | refine blk_drewN ?_ _ | refine blk_drew ?_ | refine blk_alloc ?_ _)); exact BK128.out) Try.underlying24 rfl (by kernel_rfl)) rfl ?_
                    exact ⟨_, by first | rfl | (simp [errW_none, errW_some] <;> rfl) | (simp [*, errW_none, errW_some] <;> rfl), by first | exact Kd.R_nil _ _ _ _ _ | exact Kd.N_nil _ _ _ _ _ | exact Kd.V_nil _ _ _ _ _ | exact Kd.Q_nil _ _ _ _ _ | exact Kd.S_nil _ _ _ _ _, by repeat (first | (with_reducible first | exact HB.out | apply below_alloc | apply pw_below_drewN | apply below_drew1 | refine below_set ?_ GE128.out | refine below_set ?_ GE131.out) | exact HB.out)⟩
                  · replace c19 := Bool.eq_false_iff.mpr c19
                    subst c19
                    have H1 : (vinculumref03_Read.l0 kj15 l0 a1 0 (wrap64 (1 + (wrap64 ((wrap64 (IntKind.u64.wrap (Int.tmod (rd l0 0) 64))) - 55)))) (wrap64 ((wrap64 (IntKind.u64.wrap (Int.tmod (rd l0 0) 64))) - 55)) 1 (wrap64 (Int.tdiv (wrap64 (rd l0 0)) 64)) 0 (⟨#[]⟩ : ByteArray)) = some (r1, r2, r3, r4, r5) := by rw [if_neg (show ¬ (false = true) by decide)] at H; exact H
                    clear H
                    have H := H1
                    clear H1
                    have H' := Aside0.mk H
                    clear H
                    go_wp2
                    go_loopg [7, 10] kj15 (fun kq v7 v10 w' => ∃ (x7_3 : Int) (x10_3 : Int), v7 = .int .u64 x7_3 ∧ v10 = .int .i64 x10_3 ∧ Aside0 (vinculumref03_Read.l0 kq l0 a1 x7_3 (wrap64 (1 + (wrap64 ((wrap64 (IntKind.u64.wrap (Int.tmod (rd l0 0) 64))) - 55)))) (wrap64 ((wrap64 (IntKind.u64.wrap (Int.tmod (rd l0 0) 64))) - 55)) x10_3 (wrap64 (Int.tdiv (wrap64 (rd l0 0)) 64)) 0 (⟨#[]⟩ : ByteArray) = some (r1, r2, r3, r4, r5)) ∧ Aside0 (kq ≤ kj15) ∧ Aside0 (w'.heap[gb128]? = some (.cells #[.int .i64 0, .int .i64 0, .string (⟨#[]⟩ : ByteArray), (.slice none 0 0)] 24 (0, 0))) ∧ Aside0 (w'.heap[gb131]? = some (.cells #[.int .i64 (wrap64 (Int.tdiv (wrap64 (rd l0 0)) 64)), .int .i64 0, .string (⟨#[]⟩ : ByteArray), (.slice none 0 0)] 24 (0, 0))) ∧ Aside0 (Below w.heap.size w w'))
                    case atStart => exact ⟨(0), (1), (by first | rfl | (simp; done) | (simp [*]; done) | (simp [ne_nil_bool]; done)), (by first | rfl | (simp; done) | (simp [*]; done) | (simp [ne_nil_bool]; done)), H', ⟨Nat.le_refl _⟩, ⟨by (with_reducible repeat (first | refine blk_drewN ?_ _ | refine blk_drew ?_ | refine blk_alloc ?_ _)); exact BK128.out⟩, ⟨by (with_reducible repeat (first | refine blk_drewN ?_ _ | refine blk_drew ?_ | refine blk_alloc ?_ _)); exact BK131.out⟩, ⟨by repeat (first | (with_reducible first | exact HB.out | apply below_alloc | apply pw_below_drewN | apply below_drew1 | refine below_set ?_ GE128.out | refine below_set ?_ GE131.out) | exact HB.out)⟩⟩
                    case round =>
                      clear H'
                      try clear c1
                      try clear p1
                      try clear q1
                      try clear hx1
                      try clear qi1
                      try clear c2
                      try clear p2
                      try clear c5
                      try clear c5b0
                      try clear c5b1
                      try clear c5b2
                      try clear c6
                      try clear c6b0
                      try clear c6b1
                      try clear p6
                      try clear c7
                      try clear c7b0
                      try clear c7b1
                      try clear c8
                      try clear c10
                      try clear c10b0
                      try clear c10b1
                      try clear p12
                      try clear q12
                      try clear hx12
                      try clear qi12
                      try clear c13
                      try clear p13
                      try clear q13
                      try clear hx13
                      try clear qi13
                      try clear c15
                      try clear c15b0
                      try clear c17
                      try clear c17b0
                      try clear c18
                      try clear c18b0
                      try clear c18b1
                      try clear c19
                      try clear c20
                      try clear hcz14_0
                      try clear hcz14_1
                      try clear hcz14_2
                      try clear hcz14_3
                      try clear hcz21_0
                      try clear hcz21_1
                      try clear hcz21_2
                      try clear hcz21_3
                      try clear hcz9_0
                      try clear hcz9_1
                      try clear hcz9_2
                      try clear hcz9_3
                      try clear hfz14_0
                      try clear hfz14_1
                      try clear hfz14_2
                      try clear hfz14_3
                      try clear hfz21_0
                      try clear hfz21_1
                      try clear hfz21_2
                      try clear hfz21_3
                      try clear hfz9_0
                      try clear hfz9_1
                      try clear hfz9_2
                      try clear hfz9_3
                      try clear hx129_0
                      try clear hx130_0
                      try clear hx132_0
                      try clear hx133_0
                      try clear p1
                      try clear p12
                      try clear p129
                      try clear p13
                      try clear p130
                      try clear p132
                      try clear p133
                      try clear p2
                      try clear p6
                      try clear q1
                      try clear q12
                      try clear q129
                      try clear q13
                      try clear q130
                      try clear q132
                      try clear q133
                      obtain ⟨x7_3, x10_3, rfl, rfl, HA, HK3, BK128, BK131, HB⟩ := hrel
                      cases gk with
                      | zero => exact absurd HA.out (by simp [vinculumref03_Read.l0])
                      | succ k3 =>
                        have H := HA.out
                        clear HA
                        simp only [vinculumref03_Read.l0] at H
                        by_cases c22 : x10_3 ≤ (wrap64 ((wrap64 (IntKind.u64.wrap (Int.tmod (rd l0 0) 64))) - 55))
                        · rw [if_pos c22] at H
                          have c22b0 : decide (x10_3 ≤ (wrap64 ((wrap64 (IntKind.u64.wrap (Int.tmod (rd l0 0) 64))) - 55))) = true := decide_eq_true c22
                          clear c22
                          by_cases c23 : 0 ≤ x10_3
                          · rw [if_pos c23] at H
                            have c23b0 : decide (0 ≤ x10_3) = true := decide_eq_true c23
                            clear c23
                            by_cases c24 : x10_3 < (l0.length : Int)
                            · rw [if_pos c24] at H
                              have c24b0 : decide (x10_3 < (l0.length : Int)) = true := decide_eq_true c24
                              clear c24
                              have H' := Aside0.mk H
                              clear H
                              have p134 : 0 ≤ (x10_3 : Int) := of_decide_eq_true (by first | (with_reducible assumption) | assumption)
                              have q134 : x10_3 < (l0.length : Int) := of_decide_eq_true (by first | (with_reducible assumption) | assumption)
                              obtain ⟨ad134, e134, hx134_0⟩ := Kd.at_int HR0.out x10_3 p134 q134
                              obtain rfl : ad130 = ad134 := (by injection e134)
                              replace hx134_0 := (HB.out.cell (World.block_lt_of_cell? w _ hx134_0)).trans hx134_0
                              replace p134 := eq_true p134
                              replace q134 := eq_true q134
                              go_wp2
                              go_roundg k3
                              case measure => have := HJ2.out; have := HJ15.out; have := HK3.out; omega
                              case rel => exact ⟨(IntKind.u64.wrap ((IntKind.u64.wrap (256 * x7_3)) + (IntKind.u64.wrap (rd l0 x10_3)))), (wrap64 (x10_3 + 1)), (by first | rfl | (simp; done) | (simp [*]; done) | (simp [ne_nil_bool]; done)), (by first | rfl | (simp; done) | (simp [*]; done) | (simp [ne_nil_bool]; done)), H', ⟨by have := HJ2.out; have := HJ15.out; have := HK3.out; omega⟩, ⟨by (with_reducible repeat (first | refine blk_drewN ?_ _ | refine blk_drew ?_ | refine blk_alloc ?_ _)); exact BK128.out⟩, ⟨by (with_reducible repeat (first | refine blk_drewN ?_ _ | refine blk_drew ?_ | refine blk_alloc ?_ _)); exact BK131.out⟩, ⟨by repeat (first | (with_reducible first | exact HB.out | apply below_alloc | apply pw_below_drewN | apply below_drew1 | refine below_set ?_ GE128.out | refine below_set ?_ GE131.out) | exact HB.out)⟩⟩
                            · rw [if_neg c24] at H
                              exact absurd H (by simp)
                          · rw [if_neg c23] at H
                            exact absurd H (by simp)
                        · rw [if_neg c22] at H
                          have c22b0 : decide (x10_3 ≤ (wrap64 ((wrap64 (IntKind.u64.wrap (Int.tmod (rd l0 0) 64))) - 55))) = false := decide_eq_false c22
                          clear c22
                          by_cases c25 : x7_3 < 56
                          · rw [if_pos c25] at H
                            have c25b0 : decide (x7_3 < 56) = true := decide_eq_true c25
                            clear c25
                            simp only [Option.some.injEq, Prod.mk.injEq] at H
                            obtain ⟨rfl, rfl, rfl, rfl, rfl⟩ := H
                            have hnb26 := NB128_131.out
                            have hnc26 := NB131_128.out
                            have hcz27_0 : wr.cell? ⟨gb128, 0, none⟩ = some (.int .i64 0) := (blk_cell BK128.out 0).trans rfl
                            have hcz27_1 : wr.cell? ⟨gb128, 1, none⟩ = some (.int .i64 0) := (blk_cell BK128.out 1).trans rfl
                            have hcz27_2 : wr.cell? ⟨gb128, 2, none⟩ = some (.string (⟨#[]⟩ : ByteArray)) := (blk_cell BK128.out 2).trans rfl
                            have hcz27_3 : wr.cell? ⟨gb128, 3, none⟩ = some (.slice none 0 0) := (blk_cell BK128.out 3).trans rfl
                            have hfz27_0 := blk_frozen BK128.out 0
                            have hfz27_1 := blk_frozen BK128.out 1
                            have hfz27_2 := blk_frozen BK128.out 2
                            have hfz27_3 := blk_frozen BK128.out 3
                            go_wp2
                            refine bodyPost_ret (results_ct rfl _ _ gb128 24 #[.int .i64 0, .int .i64 0, .string (⟨#[]⟩ : ByteArray), .slice none 0 0] (0, 0) _ rfl (by (with_reducible repeat (first | refine blk_drewN ?_ _ | refine blk_drew ?_ | refine blk_alloc ?_ _)); refine blk_put (cs := #[.int .i64 0, .int .i64 0, .string (⟨#[]⟩ : ByteArray), .slice none 0 0]) ?_ 3 _ rfl; (with_reducible repeat (first | refine blk_drewN ?_ _ | refine blk_drew ?_ | refine blk_alloc ?_ _)); refine blk_put (cs := #[.int .i64 0, .int .i64 0, .string (⟨#[]⟩ : ByteArray), .slice none 0 0]) ?_ 2 _ rfl; (with_reducible repeat (first | refine blk_drewN ?_ _ | refine blk_drew ?_ | refine blk_alloc ?_ _)); refine blk_put (cs := #[.int .i64 0, .int .i64 0, .string (⟨#[]⟩ : ByteArray), .slice none 0 0]) ?_ 1 _ rfl; (with_reducible repeat (first | refine blk_drewN ?_ _ | refine blk_drew ?_ | refine blk_alloc ?_ _)); refine blk_put (cs := #[.int .i64 0, .int .i64 0, .string (⟨#[]⟩ : ByteArray), .slice none 0 0]) ?_ 0 _ rfl; (with_reducible repeat (first | refine blk_drewN ?_ _ | refine blk_drew ?_ | refine blk_alloc ?_ _)); exact BK128.out) Try.underlying24 rfl (by kernel_rfl)) rfl ?_
                            exact ⟨_, by first | rfl | (simp [errW_none, errW_some] <;> rfl) | (simp [*, errW_none, errW_some] <;> rfl), by first | exact Kd.R_nil _ _ _ _ _ | exact Kd.N_nil _ _ _ _ _ | exact Kd.V_nil _ _ _ _ _ | exact Kd.Q_nil _ _ _ _ _ | exact Kd.S_nil _ _ _ _ _, by repeat (first | (with_reducible first | exact HB.out | apply below_alloc | apply pw_below_drewN | apply below_drew1 | refine below_set ?_ GE128.out | refine below_set ?_ GE131.out) | exact HB.out)⟩
                          · rw [if_neg c25] at H
                            have c25b0 : decide (x7_3 < 56) = false := decide_eq_false c25
                            clear c25
                            have H' := Aside0.mk H
                            clear H
                            go_wp2
                            go_meet
                            case rel => exact ⟨_, (x7_3), ((wrap64 (1 + (wrap64 ((wrap64 (IntKind.u64.wrap (Int.tmod (rd l0 0) 64))) - 55))))), (0), (0), ((⟨#[]⟩ : ByteArray)), (by first | rfl | (simp; done) | (simp [*]; done) | (simp [ne_nil_bool]; done)), (by first | rfl | (simp; done) | (simp [*]; done) | (simp [ne_nil_bool]; done)), H', ⟨by have := HJ2.out; have := HJ15.out; have := HK3.out; first | omega | exact Nat.le_refl _⟩, ⟨by (with_reducible repeat (first | refine blk_drewN ?_ _ | refine blk_drew ?_ | refine blk_alloc ?_ _)); exact BK128.out⟩, ⟨by (with_reducible repeat (first | refine blk_drewN ?_ _ | refine blk_drew ?_ | refine blk_alloc ?_ _)); exact BK131.out⟩, ⟨by repeat (first | (with_reducible first | exact HB.out | apply below_alloc | apply pw_below_drewN | apply below_drew1 | refine below_set ?_ GE128.out | refine below_set ?_ GE131.out) | exact HB.out)⟩⟩
            · rw [if_neg c15] at H
              have c15b0 : decide (56 ≤ (IntKind.u64.wrap (Int.tmod (rd l0 0) 64))) = false := decide_eq_false c15
              clear c15
              (first | rw [c15b0] | (simp only [i64_w, i32_w]; rw [c15b0]) | skip)
              have H' := Aside0.mk H
              clear H
              go_wp2
              go_meet
              case rel => exact ⟨_, (IntKind.u64.wrap (Int.tmod (rd l0 0) 64)), (1), (0), (0), ((⟨#[]⟩ : ByteArray)), (by first | rfl | (simp; done) | (simp [*]; done) | (simp [ne_nil_bool]; done)), (by first | rfl | (simp; done) | (simp [*]; done) | (simp [ne_nil_bool]; done)), H', ⟨by have := HJ2.out; first | omega | exact Nat.le_refl _⟩, ⟨by (with_reducible repeat (first | refine blk_drewN ?_ _ | refine blk_drew ?_ | refine blk_alloc ?_ _)); refine blk_far ?_ NB128_131.out _; (with_reducible repeat (first | refine blk_drewN ?_ _ | refine blk_drew ?_ | refine blk_alloc ?_ _)); refine blk_far ?_ NB128_131.out _; (with_reducible repeat (first | refine blk_drewN ?_ _ | refine blk_drew ?_ | refine blk_alloc ?_ _)); refine blk_far ?_ NB128_131.out _; (with_reducible repeat (first | refine blk_drewN ?_ _ | refine blk_drew ?_ | refine blk_alloc ?_ _)); refine blk_far ?_ NB128_131.out _; (with_reducible repeat (first | refine blk_drewN ?_ _ | refine blk_drew ?_ | refine blk_alloc ?_ _)); exact BK128.out⟩, ⟨by (with_reducible repeat (first | refine blk_drewN ?_ _ | refine blk_drew ?_ | refine blk_alloc ?_ _)); refine blk_put (cs := #[.int .i64 (wrap64 (Int.tdiv (wrap64 (rd l0 0)) 64)), .int .i64 0, .string (⟨#[]⟩ : ByteArray), .slice none 0 0]) ?_ 3 _ rfl; (with_reducible repeat (first | refine blk_drewN ?_ _ | refine blk_drew ?_ | refine blk_alloc ?_ _)); refine blk_put (cs := #[.int .i64 (wrap64 (Int.tdiv (wrap64 (rd l0 0)) 64)), .int .i64 0, .string (⟨#[]⟩ : ByteArray), .slice none 0 0]) ?_ 2 _ rfl; (with_reducible repeat (first | refine blk_drewN ?_ _ | refine blk_drew ?_ | refine blk_alloc ?_ _)); refine blk_put (cs := #[.int .i64 (wrap64 (Int.tdiv (wrap64 (rd l0 0)) 64)), .int .i64 0, .string (⟨#[]⟩ : ByteArray), .slice none 0 0]) ?_ 1 _ rfl; (with_reducible repeat (first | refine blk_drewN ?_ _ | refine blk_drew ?_ | refine blk_alloc ?_ _)); refine blk_put (cs := #[.int .i64 0, .int .i64 0, .string (⟨#[]⟩ : ByteArray), .slice none 0 0]) ?_ 0 _ rfl; (with_reducible repeat (first | refine blk_drewN ?_ _ | refine blk_drew ?_ | refine blk_alloc ?_ _)); exact BK131.out⟩, ⟨by repeat (first | (with_reducible first | exact HB.out | apply below_alloc | apply pw_below_drewN | apply below_drew1 | refine below_set ?_ GE128.out | refine below_set ?_ GE131.out) | exact HB.out)⟩⟩
          case rest =>
            clear HC11
            try clear c1
            try clear p1
            try clear q1
            try clear hx1
            try clear qi1
            try clear c2
            try clear p2
            try clear c5
            try clear c5b0
            try clear c5b1
            try clear c5b2
            try clear c6
            try clear c6b0
            try clear c6b1
            try clear p6
            try clear c7
            try clear c7b0
            try clear c7b1
            try clear c8
            try clear c10
            try clear c10b0
            try clear c10b1
            try clear p12
            try clear q12
            try clear hx12
            try clear qi12
            try clear c13
            try clear p13
            try clear q13
            try clear hx13
            try clear qi13
            try clear c15
            try clear c15b0
            try clear c17
            try clear c17b0
            try clear c18
            try clear c18b0
            try clear c18b1
            try clear c19
            try clear c20
            try clear c22
            try clear c22b0
            try clear c23
            try clear c23b0
            try clear c24
            try clear c24b0
            try clear c25
            try clear c25b0
            try clear c26
            try clear c27
            try clear hcz14_0
            try clear hcz14_1
            try clear hcz14_2
            try clear hcz14_3
            try clear hcz21_0
            try clear hcz21_1
            try clear hcz21_2
            try clear hcz21_3
            try clear hcz27_0
            try clear hcz27_1
            try clear hcz27_2
            try clear hcz27_3
            try clear hcz9_0
            try clear hcz9_1
            try clear hcz9_2
            try clear hcz9_3
            try clear hfz14_0
            try clear hfz14_1
            try clear hfz14_2
            try clear hfz14_3
            try clear hfz21_0
            try clear hfz21_1
            try clear hfz21_2
            try clear hfz21_3
            try clear hfz27_0
            try clear hfz27_1
            try clear hfz27_2
            try clear hfz27_3
            try clear hfz9_0
            try clear hfz9_1
            try clear hfz9_2
            try clear hfz9_3
            try clear hx129_0
            try clear hx130_0
            try clear hx132_0
            try clear hx133_0
            try clear hx134_0
            try clear p1
            try clear p12
            try clear p129
            try clear p13
            try clear p130
            try clear p132
            try clear p133
            try clear p134
            try clear p2
            try clear p6
            try clear q1
            try clear q12
            try clear q129
            try clear q13
            try clear q130
            try clear q132
            try clear q133
            try clear q134
            obtain ⟨kq, x7_10, x8_10, x129000_10, x129001_10, x129002_10, rfl, rfl, HA, HJ10, BK128, BK131, HB⟩ := hcut
            cases kq with
            | zero => exact absurd HA.out (by simp [vinculumref03_Read.j3])
            | succ kj10 =>
              have H := HA.out
              clear HA
              simp only [vinculumref03_Read.j3] at H
              by_cases c28 : (wrap64 (Int.tdiv (wrap64 (rd l0 0)) 64)) = 1
              · rw [if_pos c28] at H
                have c28b0 : ((wrap64 (Int.tdiv (wrap64 (rd l0 0)) 64)) == 1) = true := beq_iff_eq.mpr c28
                have c28b1 : ((wrap64 (Int.tdiv (wrap64 (rd l0 0)) 64)) != 1) = false := bne_eq_false_iff_eq.mpr c28
                clear c28
                by_cases c29 : (Int.tmod x7_10 2) = 1
                · rw [if_pos c29] at H
                  have c29b0 : ((Int.tmod x7_10 2) == 1) = true := beq_iff_eq.mpr c29
                  have c29b1 : ((Int.tmod x7_10 2) != 1) = false := bne_eq_false_iff_eq.mpr c29
                  clear c29
                  simp only [Option.some.injEq, Prod.mk.injEq] at H
                  obtain ⟨rfl, rfl, rfl, rfl, rfl⟩ := H
                  have hnb30 := NB131_128.out
                  have hnc30 := NB128_131.out
                  have hcz31_0 : wc.cell? ⟨gb131, 0, none⟩ = some (.int .i64 (wrap64 (Int.tdiv (wrap64 (rd l0 0)) 64))) := (blk_cell BK131.out 0).trans rfl
                  have hcz31_1 : wc.cell? ⟨gb131, 1, none⟩ = some (.int .i64 0) := (blk_cell BK131.out 1).trans rfl
                  have hcz31_2 : wc.cell? ⟨gb131, 2, none⟩ = some (.string (⟨#[]⟩ : ByteArray)) := (blk_cell BK131.out 2).trans rfl
                  have hcz31_3 : wc.cell? ⟨gb131, 3, none⟩ = some (.slice none 0 0) := (blk_cell BK131.out 3).trans rfl
                  have hfz31_0 := blk_frozen BK131.out 0
                  have hfz31_1 := blk_frozen BK131.out 1
                  have hfz31_2 := blk_frozen BK131.out 2
                  have hfz31_3 := blk_frozen BK131.out 3
                  have hcz32_0 : wc.cell? ⟨gb128, 0, none⟩ = some (.int .i64 x129000_10) := (blk_cell BK128.out 0).trans rfl
                  have hcz32_1 : wc.cell? ⟨gb128, 1, none⟩ = some (.int .i64 x129001_10) := (blk_cell BK128.out 1).trans rfl
                  have hcz32_2 : wc.cell? ⟨gb128, 2, none⟩ = some (.string x129002_10) := (blk_cell BK128.out 2).trans rfl
                  have hcz32_3 : wc.cell? ⟨gb128, 3, none⟩ = some (.slice none 0 0) := (blk_cell BK128.out 3).trans rfl
                  have hfz32_0 := blk_frozen BK128.out 0
                  have hfz32_1 := blk_frozen BK128.out 1
                  have hfz32_2 := blk_frozen BK128.out 2
                  have hfz32_3 := blk_frozen BK128.out 3
                  go_wp2
                  refine bodyPost_ret (results_ct rfl _ _ gb128 24 #[.int .i64 (wrap64 (Int.tdiv (wrap64 (rd l0 0)) 64)), .int .i64 (wrap64 ((wrap64 (-(wrap64 (IntKind.u64.wrap (Int.tdiv x7_10 2))))) - 1)), .string (⟨#[]⟩ : ByteArray), .slice none 0 0] (0, 0) _ rfl (by (with_reducible repeat (first | refine blk_drewN ?_ _ | refine blk_drew ?_ | refine blk_alloc ?_ _)); refine blk_put (cs := #[.int .i64 (wrap64 (Int.tdiv (wrap64 (rd l0 0)) 64)), .int .i64 (wrap64 ((wrap64 (-(wrap64 (IntKind.u64.wrap (Int.tdiv x7_10 2))))) - 1)), .string (⟨#[]⟩ : ByteArray), .slice none 0 0]) ?_ 3 _ rfl; (with_reducible repeat (first | refine blk_drewN ?_ _ | refine blk_drew ?_ | refine blk_alloc ?_ _)); refine blk_put (cs := #[.int .i64 (wrap64 (Int.tdiv (wrap64 (rd l0 0)) 64)), .int .i64 (wrap64 ((wrap64 (-(wrap64 (IntKind.u64.wrap (Int.tdiv x7_10 2))))) - 1)), .string x129002_10, .slice none 0 0]) ?_ 2 _ rfl; (with_reducible repeat (first | refine blk_drewN ?_ _ | refine blk_drew ?_ | refine blk_alloc ?_ _)); refine blk_put (cs := #[.int .i64 (wrap64 (Int.tdiv (wrap64 (rd l0 0)) 64)), .int .i64 x129001_10, .string x129002_10, .slice none 0 0]) ?_ 1 _ rfl; (with_reducible repeat (first | refine blk_drewN ?_ _ | refine blk_drew ?_ | refine blk_alloc ?_ _)); refine blk_put (cs := #[.int .i64 x129000_10, .int .i64 x129001_10, .string x129002_10, .slice none 0 0]) ?_ 0 _ rfl; (with_reducible repeat (first | refine blk_drewN ?_ _ | refine blk_drew ?_ | refine blk_alloc ?_ _)); refine blk_far ?_ NB128_131.out _; (with_reducible repeat (first | refine blk_drewN ?_ _ | refine blk_drew ?_ | refine blk_alloc ?_ _)); refine blk_far ?_ NB128_131.out _; (with_reducible repeat (first | refine blk_drewN ?_ _ | refine blk_drew ?_ | refine blk_alloc ?_ _)); exact BK128.out) Try.underlying24 rfl (by kernel_rfl)) rfl ?_
                  exact ⟨_, by first | rfl | (simp [errW_none, errW_some] <;> rfl) | (simp [*, errW_none, errW_some] <;> rfl), by first | exact Kd.R_nil _ _ _ _ _ | exact Kd.N_nil _ _ _ _ _ | exact Kd.V_nil _ _ _ _ _ | exact Kd.Q_nil _ _ _ _ _ | exact Kd.S_nil _ _ _ _ _, by repeat (first | (with_reducible first | exact HB.out | apply below_alloc | apply pw_below_drewN | apply below_drew1 | refine below_set ?_ GE128.out | refine below_set ?_ GE131.out) | exact HB.out)⟩
                · rw [if_neg c29] at H
                  have c29b0 : ((Int.tmod x7_10 2) == 1) = false := beq_eq_false_iff_ne.mpr c29
                  have c29b1 : ((Int.tmod x7_10 2) != 1) = true := bne_iff_ne.mpr c29
                  simp only [Option.some.injEq, Prod.mk.injEq] at H
                  obtain ⟨rfl, rfl, rfl, rfl, rfl⟩ := H
                  have hnb33 := NB131_128.out
                  have hnc33 := NB128_131.out
                  have hcz34_0 : wc.cell? ⟨gb131, 0, none⟩ = some (.int .i64 (wrap64 (Int.tdiv (wrap64 (rd l0 0)) 64))) := (blk_cell BK131.out 0).trans rfl
                  have hcz34_1 : wc.cell? ⟨gb131, 1, none⟩ = some (.int .i64 0) := (blk_cell BK131.out 1).trans rfl
                  have hcz34_2 : wc.cell? ⟨gb131, 2, none⟩ = some (.string (⟨#[]⟩ : ByteArray)) := (blk_cell BK131.out 2).trans rfl
                  have hcz34_3 : wc.cell? ⟨gb131, 3, none⟩ = some (.slice none 0 0) := (blk_cell BK131.out 3).trans rfl
                  have hfz34_0 := blk_frozen BK131.out 0
                  have hfz34_1 := blk_frozen BK131.out 1
                  have hfz34_2 := blk_frozen BK131.out 2
                  have hfz34_3 := blk_frozen BK131.out 3
                  have hcz35_0 : wc.cell? ⟨gb128, 0, none⟩ = some (.int .i64 x129000_10) := (blk_cell BK128.out 0).trans rfl
                  have hcz35_1 : wc.cell? ⟨gb128, 1, none⟩ = some (.int .i64 x129001_10) := (blk_cell BK128.out 1).trans rfl
                  have hcz35_2 : wc.cell? ⟨gb128, 2, none⟩ = some (.string x129002_10) := (blk_cell BK128.out 2).trans rfl
                  have hcz35_3 : wc.cell? ⟨gb128, 3, none⟩ = some (.slice none 0 0) := (blk_cell BK128.out 3).trans rfl
                  have hfz35_0 := blk_frozen BK128.out 0
                  have hfz35_1 := blk_frozen BK128.out 1
                  have hfz35_2 := blk_frozen BK128.out 2
                  have hfz35_3 := blk_frozen BK128.out 3
                  go_wp2
                  refine bodyPost_ret (results_ct rfl _ _ gb128 24 #[.int .i64 (wrap64 (Int.tdiv (wrap64 (rd l0 0)) 64)), .int .i64 (wrap64 (IntKind.u64.wrap (Int.tdiv x7_10 2))), .string (⟨#[]⟩ : ByteArray), .slice none 0 0] (0, 0) _ rfl (by (with_reducible repeat (first | refine blk_drewN ?_ _ | refine blk_drew ?_ | refine blk_alloc ?_ _)); refine blk_put (cs := #[.int .i64 (wrap64 (Int.tdiv (wrap64 (rd l0 0)) 64)), .int .i64 (wrap64 (IntKind.u64.wrap (Int.tdiv x7_10 2))), .string (⟨#[]⟩ : ByteArray), .slice none 0 0]) ?_ 3 _ rfl; (with_reducible repeat (first | refine blk_drewN ?_ _ | refine blk_drew ?_ | refine blk_alloc ?_ _)); refine blk_put (cs := #[.int .i64 (wrap64 (Int.tdiv (wrap64 (rd l0 0)) 64)), .int .i64 (wrap64 (IntKind.u64.wrap (Int.tdiv x7_10 2))), .string x129002_10, .slice none 0 0]) ?_ 2 _ rfl; (with_reducible repeat (first | refine blk_drewN ?_ _ | refine blk_drew ?_ | refine blk_alloc ?_ _)); refine blk_put (cs := #[.int .i64 (wrap64 (Int.tdiv (wrap64 (rd l0 0)) 64)), .int .i64 x129001_10, .string x129002_10, .slice none 0 0]) ?_ 1 _ rfl; (with_reducible repeat (first | refine blk_drewN ?_ _ | refine blk_drew ?_ | refine blk_alloc ?_ _)); refine blk_put (cs := #[.int .i64 x129000_10, .int .i64 x129001_10, .string x129002_10, .slice none 0 0]) ?_ 0 _ rfl; (with_reducible repeat (first | refine blk_drewN ?_ _ | refine blk_drew ?_ | refine blk_alloc ?_ _)); refine blk_far ?_ NB128_131.out _; (with_reducible repeat (first | refine blk_drewN ?_ _ | refine blk_drew ?_ | refine blk_alloc ?_ _)); exact BK128.out) Try.underlying24 rfl (by kernel_rfl)) rfl ?_
                  exact ⟨_, by first | rfl | (simp [errW_none, errW_some] <;> rfl) | (simp [*, errW_none, errW_some] <;> rfl), by first | exact Kd.R_nil _ _ _ _ _ | exact Kd.N_nil _ _ _ _ _ | exact Kd.V_nil _ _ _ _ _ | exact Kd.Q_nil _ _ _ _ _ | exact Kd.S_nil _ _ _ _ _, by repeat (first | (with_reducible first | exact HB.out | apply below_alloc | apply pw_below_drewN | apply below_drew1 | refine below_set ?_ GE128.out | refine below_set ?_ GE131.out) | exact HB.out)⟩
              · rw [if_neg c28] at H
                have c28b0 : ((wrap64 (Int.tdiv (wrap64 (rd l0 0)) 64)) == 1) = false := beq_eq_false_iff_ne.mpr c28
                have c28b1 : ((wrap64 (Int.tdiv (wrap64 (rd l0 0)) 64)) != 1) = true := bne_iff_ne.mpr c28
                by_cases c36 : (wrap64 (Int.tdiv (wrap64 (rd l0 0)) 64)) = 2
                · rw [if_pos c36] at H
                  have c36b0 : ((wrap64 (Int.tdiv (wrap64 (rd l0 0)) 64)) == 2) = true := beq_iff_eq.mpr c36
                  have c36b1 : ((wrap64 (Int.tdiv (wrap64 (rd l0 0)) 64)) != 2) = false := bne_eq_false_iff_eq.mpr c36
                  clear c36
                  by_cases c37 : x7_10 > (IntKind.u64.wrap (wrap64 ((l0.length : Int) - x8_10)))
                  · rw [if_pos c37] at H
                    have c37b0 : decide ((IntKind.u64.wrap (wrap64 ((l0.length : Int) - x8_10))) < x7_10) = true := decide_eq_true c37
                    clear c37
                    simp only [Option.some.injEq, Prod.mk.injEq] at H
                    obtain ⟨rfl, rfl, rfl, rfl, rfl⟩ := H
                    have hnb38 := NB131_128.out
                    have hnc38 := NB128_131.out
                    have hcz39_0 : wc.cell? ⟨gb131, 0, none⟩ = some (.int .i64 (wrap64 (Int.tdiv (wrap64 (rd l0 0)) 64))) := (blk_cell BK131.out 0).trans rfl
                    have hcz39_1 : wc.cell? ⟨gb131, 1, none⟩ = some (.int .i64 0) := (blk_cell BK131.out 1).trans rfl
                    have hcz39_2 : wc.cell? ⟨gb131, 2, none⟩ = some (.string (⟨#[]⟩ : ByteArray)) := (blk_cell BK131.out 2).trans rfl
                    have hcz39_3 : wc.cell? ⟨gb131, 3, none⟩ = some (.slice none 0 0) := (blk_cell BK131.out 3).trans rfl
                    have hfz39_0 := blk_frozen BK131.out 0
                    have hfz39_1 := blk_frozen BK131.out 1
                    have hfz39_2 := blk_frozen BK131.out 2
                    have hfz39_3 := blk_frozen BK131.out 3
                    have hcz40_0 : wc.cell? ⟨gb128, 0, none⟩ = some (.int .i64 x129000_10) := (blk_cell BK128.out 0).trans rfl
                    have hcz40_1 : wc.cell? ⟨gb128, 1, none⟩ = some (.int .i64 x129001_10) := (blk_cell BK128.out 1).trans rfl
                    have hcz40_2 : wc.cell? ⟨gb128, 2, none⟩ = some (.string x129002_10) := (blk_cell BK128.out 2).trans rfl
                    have hcz40_3 : wc.cell? ⟨gb128, 3, none⟩ = some (.slice none 0 0) := (blk_cell BK128.out 3).trans rfl
                    have hfz40_0 := blk_frozen BK128.out 0
                    have hfz40_1 := blk_frozen BK128.out 1
                    have hfz40_2 := blk_frozen BK128.out 2
                    have hfz40_3 := blk_frozen BK128.out 3
                    go_wp2
                    refine bodyPost_ret (results_ct rfl _ _ gb128 24 #[.int .i64 0, .int .i64 0, .string (⟨#[]⟩ : ByteArray), .slice none 0 0] (0, 0) _ rfl (by (with_reducible repeat (first | refine blk_drewN ?_ _ | refine blk_drew ?_ | refine blk_alloc ?_ _)); refine blk_put (cs := #[.int .i64 0, .int .i64 0, .string (⟨#[]⟩ : ByteArray), .slice none 0 0]) ?_ 3 _ rfl; (with_reducible repeat (first | refine blk_drewN ?_ _ | refine blk_drew ?_ | refine blk_alloc ?_ _)); refine blk_put (cs := #[.int .i64 0, .int .i64 0, .string x129002_10, .slice none 0 0]) ?_ 2 _ rfl; (with_reducible repeat (first | refine blk_drewN ?_ _ | refine blk_drew ?_ | refine blk_alloc ?_ _)); refine blk_put (cs := #[.int .i64 0, .int .i64 x129001_10, .string x129002_10, .slice none 0 0]) ?_ 1 _ rfl; (with_reducible repeat (first | refine blk_drewN ?_ _ | refine blk_drew ?_ | refine blk_alloc ?_ _)); refine blk_put (cs := #[.int .i64 x129000_10, .int .i64 x129001_10, .string x129002_10, .slice none 0 0]) ?_ 0 _ rfl; (with_reducible repeat (first | refine blk_drewN ?_ _ | refine blk_drew ?_ | refine blk_alloc ?_ _)); exact BK128.out) Try.underlying24 rfl (by kernel_rfl)) rfl ?_
                    exact ⟨_, by first | rfl | (simp [errW_none, errW_some] <;> rfl) | (simp [*, errW_none, errW_some] <;> rfl), by first | exact Kd.R_nil _ _ _ _ _ | exact Kd.N_nil _ _ _ _ _ | exact Kd.V_nil _ _ _ _ _ | exact Kd.Q_nil _ _ _ _ _ | exact Kd.S_nil _ _ _ _ _, by repeat (first | (with_reducible first | exact HB.out | apply below_alloc | apply pw_below_drewN | apply below_drew1 | refine below_set ?_ GE128.out | refine below_set ?_ GE131.out) | exact HB.out)⟩
                  · rw [if_neg c37] at H
                    have c37b0 : decide ((IntKind.u64.wrap (wrap64 ((l0.length : Int) - x8_10))) < x7_10) = false := decide_eq_false c37
                    clear c37
                    by_cases c41 : 0 ≤ x8_10
                    · rw [if_pos c41] at H
                      have c41b0 := eq_true c41
                      have c41b1 : decide (0 ≤ x8_10) = true := decide_eq_true c41
                      clear c41
                      by_cases c42 : x8_10 ≤ (wrap64 (x8_10 + (wrap64 (x7_10))))
                      · rw [if_pos c42] at H
                        have c42b0 := eq_true c42
                        have c42b1 : decide (x8_10 ≤ (wrap64 (x8_10 + (wrap64 (x7_10))))) = true := decide_eq_true c42
                        by_cases c43 : (wrap64 (x8_10 + (wrap64 (x7_10)))) ≤ (l0.length : Int)
                        · rw [if_pos c43] at H
                          have c43b0 := eq_true c43
                          have c43b1 : decide ((wrap64 (x8_10 + (wrap64 (x7_10)))) ≤ (l0.length : Int)) = true := decide_eq_true c43
                          simp only [Option.some.injEq, Prod.mk.injEq] at H
                          obtain ⟨rfl, rfl, rfl, rfl, rfl⟩ := H
                          have hnb44 := NB131_128.out
                          have hnc44 := NB128_131.out
                          have hcz45_0 : wc.cell? ⟨gb131, 0, none⟩ = some (.int .i64 (wrap64 (Int.tdiv (wrap64 (rd l0 0)) 64))) := (blk_cell BK131.out 0).trans rfl
                          have hcz45_1 : wc.cell? ⟨gb131, 1, none⟩ = some (.int .i64 0) := (blk_cell BK131.out 1).trans rfl
                          have hcz45_2 : wc.cell? ⟨gb131, 2, none⟩ = some (.string (⟨#[]⟩ : ByteArray)) := (blk_cell BK131.out 2).trans rfl
                          have hcz45_3 : wc.cell? ⟨gb131, 3, none⟩ = some (.slice none 0 0) := (blk_cell BK131.out 3).trans rfl
                          have hfz45_0 := blk_frozen BK131.out 0
                          have hfz45_1 := blk_frozen BK131.out 1
                          have hfz45_2 := blk_frozen BK131.out 2
                          have hfz45_3 := blk_frozen BK131.out 3
                          obtain ⟨i046, hi046, _, hsz46, _⟩ := info_parts info5
                          obtain ⟨A46, hcut46, hA46, hC46⟩ := print_mid_of (P := Try.prog) (Value.int .u8) 0 31 5 .i64 .i64 Try.underlying31 hi046 hsz46 (some ad130) c0 l0 x8_10 (wrap64 (x8_10 + (wrap64 (x7_10)))) (of_decide_eq_true (by first | (with_reducible assumption) | assumption)) (by first | omega | exact of_decide_eq_true (by first | (with_reducible assumption) | assumption)) (of_decide_eq_true (by first | (with_reducible assumption) | assumption)) HC0.out
                          have HR135 := Aside0.mk (Kd.C_of_reads (h1 := fun _ => rfl) (hA46 _ (Kd.reads_of_C HR0.out)))
                          have HC135 := Aside0.mk hC46
                          clear hA46 hC46 hi046 hsz46
                          have hcv47 := Kd.C_string (P := Try.prog) (A := A46) (c := (c0 - x8_10.toNat)) Try.underlying31 Try.underlying5 Try.underlying9 (Kd.C_below HR135.out HB.out)
                          rw [List.length_drop, List.length_take, Nat.min_eq_left (Int.toNat_le.2 (of_decide_eq_true (by first | (with_reducible assumption) | assumption) : (wrap64 (x8_10 + (wrap64 (x7_10)))) ≤ (l0.length : Int)))] at hcv47
                          have hcz48_0 : wc.cell? ⟨gb128, 0, none⟩ = some (.int .i64 x129000_10) := (blk_cell BK128.out 0).trans rfl
                          have hcz48_1 : wc.cell? ⟨gb128, 1, none⟩ = some (.int .i64 x129001_10) := (blk_cell BK128.out 1).trans rfl
                          have hcz48_2 : wc.cell? ⟨gb128, 2, none⟩ = some (.string x129002_10) := (blk_cell BK128.out 2).trans rfl
                          have hcz48_3 : wc.cell? ⟨gb128, 3, none⟩ = some (.slice none 0 0) := (blk_cell BK128.out 3).trans rfl
                          have hfz48_0 := blk_frozen BK128.out 0
                          have hfz48_1 := blk_frozen BK128.out 1
                          have hfz48_2 := blk_frozen BK128.out 2
                          have hfz48_3 := blk_frozen BK128.out 3
                          go_wp2
                          refine bodyPost_ret (results_ct rfl _ _ gb128 24 #[.int .i64 (wrap64 (Int.tdiv (wrap64 (rd l0 0)) 64)), .int .i64 0, .string (strOfNums ((l0.take ((wrap64 (x8_10 + (wrap64 (x7_10)))) : Int).toNat).drop (x8_10 : Int).toNat)), .slice none 0 0] (0, 0) _ rfl (by (with_reducible repeat (first | refine blk_drewN ?_ _ | refine blk_drew ?_ | refine blk_alloc ?_ _)); refine blk_put (cs := #[.int .i64 (wrap64 (Int.tdiv (wrap64 (rd l0 0)) 64)), .int .i64 0, .string (strOfNums ((l0.take ((wrap64 (x8_10 + (wrap64 (x7_10)))) : Int).toNat).drop (x8_10 : Int).toNat)), .slice none 0 0]) ?_ 3 _ rfl; (with_reducible repeat (first | refine blk_drewN ?_ _ | refine blk_drew ?_ | refine blk_alloc ?_ _)); refine blk_put (cs := #[.int .i64 (wrap64 (Int.tdiv (wrap64 (rd l0 0)) 64)), .int .i64 0, .string x129002_10, .slice none 0 0]) ?_ 2 _ rfl; (with_reducible repeat (first | refine blk_drewN ?_ _ | refine blk_drew ?_ | refine blk_alloc ?_ _)); refine blk_put (cs := #[.int .i64 (wrap64 (Int.tdiv (wrap64 (rd l0 0)) 64)), .int .i64 x129001_10, .string x129002_10, .slice none 0 0]) ?_ 1 _ rfl; (with_reducible repeat (first | refine blk_drewN ?_ _ | refine blk_drew ?_ | refine blk_alloc ?_ _)); refine blk_put (cs := #[.int .i64 x129000_10, .int .i64 x129001_10, .string x129002_10, .slice none 0 0]) ?_ 0 _ rfl; (with_reducible repeat (first | refine blk_drewN ?_ _ | refine blk_drew ?_ | refine blk_alloc ?_ _)); refine blk_far ?_ NB128_131.out _; (with_reducible repeat (first | refine blk_drewN ?_ _ | refine blk_drew ?_ | refine blk_alloc ?_ _)); exact BK128.out) Try.underlying24 rfl (by kernel_rfl)) rfl ?_
                          exact ⟨_, by first | rfl | (simp [errW_none, errW_some] <;> rfl) | (simp [*, errW_none, errW_some] <;> rfl), by first | exact Kd.R_nil _ _ _ _ _ | exact Kd.N_nil _ _ _ _ _ | exact Kd.V_nil _ _ _ _ _ | exact Kd.Q_nil _ _ _ _ _ | exact Kd.S_nil _ _ _ _ _, by repeat (first | (with_reducible first | exact HB.out | apply below_alloc | apply pw_below_drewN | apply below_drew1 | refine below_set ?_ GE128.out | refine below_set ?_ GE131.out) | exact HB.out)⟩
                        · rw [if_neg c43] at H
                          exact absurd H (by simp)
                      · rw [if_neg c42] at H
                        exact absurd H (by simp)
                    · rw [if_neg c41] at H
                      exact absurd H (by simp)
                · rw [if_neg c36] at H
                  have c36b0 : ((wrap64 (Int.tdiv (wrap64 (rd l0 0)) 64)) == 2) = false := beq_eq_false_iff_ne.mpr c36
                  have c36b1 : ((wrap64 (Int.tdiv (wrap64 (rd l0 0)) 64)) != 2) = true := bne_iff_ne.mpr c36
                  by_cases c49 : x7_10 > (IntKind.u64.wrap (wrap64 ((l0.length : Int) - x8_10)))
                  · rw [if_pos c49] at H
                    have c49b0 : decide ((IntKind.u64.wrap (wrap64 ((l0.length : Int) - x8_10))) < x7_10) = true := decide_eq_true c49
                    clear c49
                    simp only [Option.some.injEq, Prod.mk.injEq] at H
                    obtain ⟨rfl, rfl, rfl, rfl, rfl⟩ := H
                    have hnb50 := NB131_128.out
                    have hnc50 := NB128_131.out
                    have hcz51_0 : wc.cell? ⟨gb131, 0, none⟩ = some (.int .i64 (wrap64 (Int.tdiv (wrap64 (rd l0 0)) 64))) := (blk_cell BK131.out 0).trans rfl
                    have hcz51_1 : wc.cell? ⟨gb131, 1, none⟩ = some (.int .i64 0) := (blk_cell BK131.out 1).trans rfl
                    have hcz51_2 : wc.cell? ⟨gb131, 2, none⟩ = some (.string (⟨#[]⟩ : ByteArray)) := (blk_cell BK131.out 2).trans rfl
                    have hcz51_3 : wc.cell? ⟨gb131, 3, none⟩ = some (.slice none 0 0) := (blk_cell BK131.out 3).trans rfl
                    have hfz51_0 := blk_frozen BK131.out 0
                    have hfz51_1 := blk_frozen BK131.out 1
                    have hfz51_2 := blk_frozen BK131.out 2
                    have hfz51_3 := blk_frozen BK131.out 3
                    have hcz52_0 : wc.cell? ⟨gb128, 0, none⟩ = some (.int .i64 x129000_10) := (blk_cell BK128.out 0).trans rfl
                    have hcz52_1 : wc.cell? ⟨gb128, 1, none⟩ = some (.int .i64 x129001_10) := (blk_cell BK128.out 1).trans rfl
                    have hcz52_2 : wc.cell? ⟨gb128, 2, none⟩ = some (.string x129002_10) := (blk_cell BK128.out 2).trans rfl
                    have hcz52_3 : wc.cell? ⟨gb128, 3, none⟩ = some (.slice none 0 0) := (blk_cell BK128.out 3).trans rfl
                    have hfz52_0 := blk_frozen BK128.out 0
                    have hfz52_1 := blk_frozen BK128.out 1
                    have hfz52_2 := blk_frozen BK128.out 2
                    have hfz52_3 := blk_frozen BK128.out 3
                    go_wp2
                    refine bodyPost_ret (results_ct rfl _ _ gb128 24 #[.int .i64 0, .int .i64 0, .string (⟨#[]⟩ : ByteArray), .slice none 0 0] (0, 0) _ rfl (by (with_reducible repeat (first | refine blk_drewN ?_ _ | refine blk_drew ?_ | refine blk_alloc ?_ _)); refine blk_put (cs := #[.int .i64 0, .int .i64 0, .string (⟨#[]⟩ : ByteArray), .slice none 0 0]) ?_ 3 _ rfl; (with_reducible repeat (first | refine blk_drewN ?_ _ | refine blk_drew ?_ | refine blk_alloc ?_ _)); refine blk_put (cs := #[.int .i64 0, .int .i64 0, .string x129002_10, .slice none 0 0]) ?_ 2 _ rfl; (with_reducible repeat (first | refine blk_drewN ?_ _ | refine blk_drew ?_ | refine blk_alloc ?_ _)); refine blk_put (cs := #[.int .i64 0, .int .i64 x129001_10, .string x129002_10, .slice none 0 0]) ?_ 1 _ rfl; (with_reducible repeat (first | refine blk_drewN ?_ _ | refine blk_drew ?_ | refine blk_alloc ?_ _)); refine blk_put (cs := #[.int .i64 x129000_10, .int .i64 x129001_10, .string x129002_10, .slice none 0 0]) ?_ 0 _ rfl; (with_reducible repeat (first | refine blk_drewN ?_ _ | refine blk_drew ?_ | refine blk_alloc ?_ _)); exact BK128.out) Try.underlying24 rfl (by kernel_rfl)) rfl ?_
                    exact ⟨_, by first | rfl | (simp [errW_none, errW_some] <;> rfl) | (simp [*, errW_none, errW_some] <;> rfl), by first | exact Kd.R_nil _ _ _ _ _ | exact Kd.N_nil _ _ _ _ _ | exact Kd.V_nil _ _ _ _ _ | exact Kd.Q_nil _ _ _ _ _ | exact Kd.S_nil _ _ _ _ _, by repeat (first | (with_reducible first | exact HB.out | apply below_alloc | apply pw_below_drewN | apply below_drew1 | refine below_set ?_ GE128.out | refine below_set ?_ GE131.out) | exact HB.out)⟩
                  · rw [if_neg c49] at H
                    have c49b0 : decide ((IntKind.u64.wrap (wrap64 ((l0.length : Int) - x8_10))) < x7_10) = false := decide_eq_false c49
                    clear c49
                    have H' := Aside0.mk H
                    clear H
                    have hnb53 := NB131_128.out
                    have hnc53 := NB128_131.out
                    have hcz54_0 : wc.cell? ⟨gb131, 0, none⟩ = some (.int .i64 (wrap64 (Int.tdiv (wrap64 (rd l0 0)) 64))) := (blk_cell BK131.out 0).trans rfl
                    have hcz54_1 : wc.cell? ⟨gb131, 1, none⟩ = some (.int .i64 0) := (blk_cell BK131.out 1).trans rfl
                    have hcz54_2 : wc.cell? ⟨gb131, 2, none⟩ = some (.string (⟨#[]⟩ : ByteArray)) := (blk_cell BK131.out 2).trans rfl
                    have hcz54_3 : wc.cell? ⟨gb131, 3, none⟩ = some (.slice none 0 0) := (blk_cell BK131.out 3).trans rfl
                    have hfz54_0 := blk_frozen BK131.out 0
                    have hfz54_1 := blk_frozen BK131.out 1
                    have hfz54_2 := blk_frozen BK131.out 2
                    have hfz54_3 := blk_frozen BK131.out 3
                    go_wp2
                    go_loopg [8, 11] kj10 (fun kq v8 v11 w' => ∃ (x8_3 : Int) (x11_3 : Int) (x129000_3 : Int) (x129001_3 : Int) (x129002_3 : ByteArray) (x132003_3 : List (S24)) (u132003 : Value), v8 = .int .i64 x8_3 ∧ v11 = .int .i64 x11_3 ∧ Aside0 (vinculumref03_Read.l1 kq l0 a1 x7_10 x8_3 x11_3 (wrap64 (Int.tdiv (wrap64 (rd l0 0)) 64)) 0 (⟨#[]⟩ : ByteArray) x132003_3 = some (r1, r2, r3, r4, r5)) ∧ Aside0 (kq ≤ kj10) ∧ Aside0 (Kd.R k24 24 w' w.heap.size (fun k_ => k_ ≠ gb128 ∧ k_ ≠ gb131) u132003 x132003_3) ∧ Aside0 (w'.heap[gb128]? = some (.cells #[.int .i64 x129000_3, .int .i64 x129001_3, .string x129002_3, (.slice none 0 0)] 24 (0, 0))) ∧ Aside0 (w'.heap[gb131]? = some (.cells #[.int .i64 (wrap64 (Int.tdiv (wrap64 (rd l0 0)) 64)), .int .i64 0, .string (⟨#[]⟩ : ByteArray), u132003] 24 (0, 0))) ∧ Aside0 (Below w.heap.size w w'))
                    case atStart => exact ⟨(x8_10), (0), (x129000_10), (x129001_10), (x129002_10), (([] : List (S24))), (.slice none 0 0), (by first | rfl | (simp; done) | (simp [*]; done) | (simp [ne_nil_bool]; done)), (by first | rfl | (simp; done) | (simp [*]; done) | (simp [ne_nil_bool]; done)), H', ⟨Nat.le_refl _⟩, ⟨by first | exact Kd.R_nil _ _ _ _ _ | exact Kd.N_nil _ _ _ _ _ | exact Kd.V_nil _ _ _ _ _ | exact Kd.Q_nil _ _ _ _ _ | exact Kd.S_nil _ _ _ _ _⟩, ⟨by (with_reducible repeat (first | refine blk_drewN ?_ _ | refine blk_drew ?_ | refine blk_alloc ?_ _)); exact BK128.out⟩, ⟨by (with_reducible repeat (first | refine blk_drewN ?_ _ | refine blk_drew ?_ | refine blk_alloc ?_ _)); exact BK131.out⟩, ⟨by repeat (first | (with_reducible first | exact HB.out | apply below_alloc | apply pw_below_drewN | apply below_drew1 | refine below_set ?_ GE128.out | refine below_set ?_ GE131.out) | exact HB.out)⟩⟩
                    case round =>
                      clear H'
                      try clear c1
                      try clear p1
                      try clear q1
                      try clear hx1
                      try clear qi1
                      try clear c2
                      try clear p2
                      try clear c3
                      try clear c4
                      try clear hcv4
                      try clear c5
                      try clear c5b0
                      try clear c5b1
                      try clear c5b2
                      try clear c6
                      try clear c6b0
                      try clear c6b1
                      try clear p6
                      try clear c7
                      try clear c7b0
                      try clear c7b1
                      try clear c8
                      try clear c10
                      try clear c10b0
                      try clear c10b1
                      try clear p12
                      try clear q12
                      try clear hx12
                      try clear qi12
                      try clear c13
                      try clear p13
                      try clear q13
                      try clear hx13
                      try clear qi13
                      try clear c15
                      try clear c15b0
                      try clear c17
                      try clear c17b0
                      try clear c18
                      try clear c18b0
                      try clear c18b1
                      try clear c19
                      try clear c20
                      try clear c22
                      try clear c22b0
                      try clear c23
                      try clear c23b0
                      try clear c24
                      try clear c24b0
                      try clear c25
                      try clear c25b0
                      try clear c26
                      try clear c27
                      try clear c28
                      try clear c28b0
                      try clear c28b1
                      try clear c29
                      try clear c29b0
                      try clear c29b1
                      try clear c30
                      try clear c33
                      try clear c36
                      try clear c36b0
                      try clear c36b1
                      try clear c37
                      try clear c37b0
                      try clear c38
                      try clear c41
                      try clear c41b0
                      try clear c41b1
                      try clear c42
                      try clear c42b0
                      try clear c42b1
                      try clear c43
                      try clear c43b0
                      try clear c43b1
                      try clear c44
                      try clear hcv47
                      try clear c49
                      try clear c49b0
                      try clear c50
                      try clear c53
                      try clear hcz14_0
                      try clear hcz14_1
                      try clear hcz14_2
                      try clear hcz14_3
                      try clear hcz21_0
                      try clear hcz21_1
                      try clear hcz21_2
                      try clear hcz21_3
                      try clear hcz27_0
                      try clear hcz27_1
                      try clear hcz27_2
                      try clear hcz27_3
                      try clear hcz31_0
                      try clear hcz31_1
                      try clear hcz31_2
                      try clear hcz31_3
                      try clear hcz32_0
                      try clear hcz32_1
                      try clear hcz32_2
                      try clear hcz32_3
                      try clear hcz34_0
                      try clear hcz34_1
                      try clear hcz34_2
                      try clear hcz34_3
                      try clear hcz35_0
                      try clear hcz35_1
                      try clear hcz35_2
                      try clear hcz35_3
                      try clear hcz39_0
                      try clear hcz39_1
                      try clear hcz39_2
                      try clear hcz39_3
                      try clear hcz40_0
                      try clear hcz40_1
                      try clear hcz40_2
                      try clear hcz40_3
                      try clear hcz45_0
                      try clear hcz45_1
                      try clear hcz45_2
                      try clear hcz45_3
                      try clear hcz48_0
                      try clear hcz48_1
                      try clear hcz48_2
                      try clear hcz48_3
                      try clear hcz51_0
                      try clear hcz51_1
                      try clear hcz51_2
                      try clear hcz51_3
                      try clear hcz52_0
                      try clear hcz52_1
                      try clear hcz52_2
                      try clear hcz52_3
                      try clear hcz54_0
                      try clear hcz54_1
                      try clear hcz54_2
                      try clear hcz54_3
                      try clear hcz9_0
                      try clear hcz9_1
                      try clear hcz9_2
                      try clear hcz9_3
                      try clear hfz14_0
                      try clear hfz14_1
                      try clear hfz14_2
                      try clear hfz14_3
                      try clear hfz21_0
                      try clear hfz21_1
                      try clear hfz21_2
                      try clear hfz21_3
                      try clear hfz27_0
                      try clear hfz27_1
                      try clear hfz27_2
                      try clear hfz27_3
                      try clear hfz31_0
                      try clear hfz31_1
                      try clear hfz31_2
                      try clear hfz31_3
                      try clear hfz32_0
                      try clear hfz32_1
                      try clear hfz32_2
                      try clear hfz32_3
                      try clear hfz34_0
                      try clear hfz34_1
                      try clear hfz34_2
                      try clear hfz34_3
                      try clear hfz35_0
                      try clear hfz35_1
                      try clear hfz35_2
                      try clear hfz35_3
                      try clear hfz39_0
                      try clear hfz39_1
                      try clear hfz39_2
                      try clear hfz39_3
                      try clear hfz40_0
                      try clear hfz40_1
                      try clear hfz40_2
                      try clear hfz40_3
                      try clear hfz45_0
                      try clear hfz45_1
                      try clear hfz45_2
                      try clear hfz45_3
                      try clear hfz48_0
                      try clear hfz48_1
                      try clear hfz48_2
                      try clear hfz48_3
                      try clear hfz51_0
                      try clear hfz51_1
                      try clear hfz51_2
                      try clear hfz51_3
                      try clear hfz52_0
                      try clear hfz52_1
                      try clear hfz52_2
                      try clear hfz52_3
                      try clear hfz54_0
                      try clear hfz54_1
                      try clear hfz54_2
                      try clear hfz54_3
                      try clear hfz9_0
                      try clear hfz9_1
                      try clear hfz9_2
                      try clear hfz9_3
                      try clear hx129_0
                      try clear hx130_0
                      try clear hx132_0
                      try clear hx133_0
                      try clear hx134_0
                      try clear p1
                      try clear p12
                      try clear p129
                      try clear p13
                      try clear p130
                      try clear p132
                      try clear p133
                      try clear p134
                      try clear p2
                      try clear p6
                      try clear q1
                      try clear q12
                      try clear q129
                      try clear q13
                      try clear q130
                      try clear q132
                      try clear q133
                      try clear q134
                      obtain ⟨x8_3, x11_3, x129000_3, x129001_3, x129002_3, x132003_3, u132003, rfl, rfl, HA, HK3, HO_132003, BK128, BK131, HB⟩ := hrel
                      cases gk with
                      | zero => exact absurd HA.out (by simp [vinculumref03_Read.l1])
                      | succ k3 =>
                        have H := HA.out
                        clear HA
                        simp only [vinculumref03_Read.l1] at H
                        by_cases c55 : x11_3 < (wrap64 (x7_10))
                        · rw [if_pos c55] at H
                          have c55b0 : decide (x11_3 < (wrap64 (x7_10))) = true := decide_eq_true c55
                          clear c55
                          by_cases c56 : 0 ≤ x8_3
                          · rw [if_pos c56] at H
                            have c56b0 := eq_true c56
                            have c56b1 : decide (0 ≤ x8_3) = true := decide_eq_true c56
                            clear c56
                            by_cases c57 : x8_3 ≤ (l0.length : Int)
                            · rw [if_pos c57] at H
                              have c57b0 := eq_true c57
                              have c57b1 : decide (x8_3 ≤ (l0.length : Int)) = true := decide_eq_true c57
                              clear c57
                              replace H := Option.bind_eq_some_iff.mp H
                              obtain ⟨⟨t137, t138, t139, t140, t143⟩, A580, H⟩ := H
                              replace H : (if t143 = 0 then (some (0, 0, (⟨#[]⟩ : ByteArray), ([] : List (S24)), 0)) else (if x132003_3.length < 2513169434916 then (vinculumref03_Read.l1 k3 l0 a1 x7_10 (wrap64 (x8_3 + t143)) (wrap64 (x11_3 + 1)) (wrap64 (Int.tdiv (wrap64 (rd l0 0)) 64)) 0 (⟨#[]⟩ : ByteArray) (x132003_3 ++ [(⟨t137, t138, t139, t140⟩ : S24)])) else (none))) = some (r1, r2, r3, r4, r5) := H
                              have A58 := Aside0.mk A580
                              clear A580
                              by_cases c59 : t143 = 0
                              · rw [if_pos c59] at H
                                have c59b0 : (t143 == 0) = true := beq_iff_eq.mpr c59
                                have c59b1 : (t143 != 0) = false := bne_eq_false_iff_eq.mpr c59
                                clear c59
                                simp only [Option.some.injEq, Prod.mk.injEq] at H
                                obtain ⟨rfl, rfl, rfl, rfl, rfl⟩ := H
                                obtain ⟨i060, hi060, _, hsz60, _⟩ := info_parts info5
                                obtain ⟨A60, hcut60, hA60, hC60⟩ := print_drop_of (P := Try.prog) (Value.int .u8) 0 31 5 .i64 Try.underlying31 hi060 hsz60 (some ad130) c0 l0 x8_3 (of_decide_eq_true (by first | (with_reducible assumption) | assumption)) (of_decide_eq_true (by first | (with_reducible assumption) | assumption)) HC0.out
                                have HR136 := Aside0.mk (Kd.C_of_reads (h1 := fun _ => rfl) (hA60 _ (Kd.reads_of_C HR0.out)))
                                have HC136 := Aside0.mk hC60
                                clear hA60 hC60 hi060 hsz60
                                go_wp2_with (first | ((with_reducible refine gate_callee (f := 27) rfl ?_); refine goesL_ (some 96) rfl rfl Try.func27 (by kernel_rfl) rfl #[.slice A60 (l0.drop (x8_3 : Int).toNat).length (c0 - x8_3.toNat), .int .i64 (wrap64 (a1 - 1))] rfl (by (try simp only [List.map_toArray, List.map_cons, List.map_nil]); first | done | (rw [show (l0.drop (x8_3 : Int).toNat).length = (l0.length - x8_3.toNat) from List.length_drop] <;> rfl) | rfl | (simp only [List.length_drop, List.length_take]; rfl)) ?_; (with_reducible refine (ih k3 (by have := HJ2.out; have := HJ10.out; have := HK3.out; omega) _ _ (l0.drop (x8_3 : Int).toNat) (wrap64 (a1 - 1)) t137 t138 t139 t140 t143 _ ?side1 ?side2 A58.out).mono ?_); (case side1 => repeat (first | exact (Kd.C_below HR136.out HB.out) | (with_reducible refine Kd.C_alloc ?_ _) | (with_reducible refine Kd.C_drewN ?_ _) | (with_reducible refine Kd.C_drew ?_))); (case side2 => exact HC136.out); rintro e w61 ⟨v141, rfl, ho0, hb⟩; refine ⟨_, rfl, ?_⟩; have n0_ := Aside0.mk (Kd.R_elder' (by (with_reducible repeat (first | apply Kd.R_alloc | apply Kd.R_drewN | apply Kd.R_drew)); exact HO_132003.out) (Kd.R_base ho0) hb); have n1_ := Aside0.mk (Kd.R_lower (Kd.R_newB (Kd.R_newB (Kd.R_new' ho0 (Kd.R_lt (by (with_reducible repeat (first | apply Kd.R_alloc | apply Kd.R_drewN | apply Kd.R_drew)); exact HO_132003.out))) (g := gb128) (o := .cells #[.int .i64 x129000_3, .int .i64 x129001_3, .string x129002_3, .slice none 0 0] 24 (0, 0)) (by (with_reducible repeat (first | refine blk_drewN ?_ _ | refine blk_drew ?_ | refine blk_alloc ?_ _)); exact BK128.out)) (g := gb131) (o := .cells #[.int .i64 (wrap64 (Int.tdiv (wrap64 (rd l0 0)) 64)), .int .i64 0, .string (⟨#[]⟩ : ByteArray), u132003] 24 (0, 0)) (by (with_reducible repeat (first | refine blk_drewN ?_ _ | refine blk_drew ?_ | refine blk_alloc ?_ _)); exact BK131.out)) (below_size (by repeat (first | (with_reducible first | exact HB.out | apply below_alloc | apply pw_below_drewN | apply below_drew1 | refine below_set ?_ GE128.out | refine below_set ?_ GE131.out) | exact HB.out)))); have n2_ := Aside0.mk (blk_below (g := gb128) (o := .cells #[.int .i64 x129000_3, .int .i64 x129001_3, .string x129002_3, .slice none 0 0] 24 (0, 0)) (by (with_reducible repeat (first | refine blk_drewN ?_ _ | refine blk_drew ?_ | refine blk_alloc ?_ _)); exact BK128.out) hb); have n3_ := Aside0.mk (blk_below (g := gb131) (o := .cells #[.int .i64 (wrap64 (Int.tdiv (wrap64 (rd l0 0)) 64)), .int .i64 0, .string (⟨#[]⟩ : ByteArray), u132003] 24 (0, 0)) (by (with_reducible repeat (first | refine blk_drewN ?_ _ | refine blk_drew ?_ | refine blk_alloc ?_ _)); exact BK131.out) hb); have n4_ := Aside0.mk (below_step (by repeat (first | (with_reducible first | exact HB.out | apply below_alloc | apply pw_below_drewN | apply below_drew1 | refine below_set ?_ GE128.out | refine below_set ?_ GE131.out) | exact HB.out)) hb); clear HO_132003; clear BK128; clear BK131; clear HB; have HO_132003 := n0_; have HO142 := n1_; have BK128 := n2_; have BK131 := n3_; have HB := n4_; clear n0_ n1_ n2_ n3_ n4_; (try clear hb); (try clear hb2); (try clear hk); (try clear hi); (try clear ho0)) | ((with_reducible refine gate_dst (N := 12) rfl ?_); refine box_event ?hg (N := 12) ?hd (cs := #[.int .i64 0, .int .i64 0, .string (⟨#[]⟩ : ByteArray), .slice none 0 0]) (t := 24) ?hr ?_; (case hd => rfl); (case hg => rfl); (case hr => first | (go_simp; done) | (go_simp; rfl)); intro gb144 hg w62 hbox hb; have n0_ := Aside0.mk (Kd.R_below (Kd.R_elderB (by (with_reducible repeat (first | apply Kd.R_alloc | apply Kd.R_drewN | apply Kd.R_drew)); exact HO_132003.out) gb144 (Nat.le_of_eq hg.symm)) hb); have n1_ := Aside0.mk (Kd.R_below (Kd.R_elderB (by (with_reducible repeat (first | apply Kd.R_alloc | apply Kd.R_drewN | apply Kd.R_drew)); exact HO142.out) gb144 (Nat.le_of_eq hg.symm)) hb); have n2_ := Aside0.mk (blk_below (g := gb128) (o := .cells #[.int .i64 x129000_3, .int .i64 x129001_3, .string x129002_3, .slice none 0 0] 24 (0, 0)) (by (with_reducible repeat (first | refine blk_drewN ?_ _ | refine blk_drew ?_ | refine blk_alloc ?_ _)); exact BK128.out) hb); have n3_ := Aside0.mk (blk_below (g := gb131) (o := .cells #[.int .i64 (wrap64 (Int.tdiv (wrap64 (rd l0 0)) 64)), .int .i64 0, .string (⟨#[]⟩ : ByteArray), u132003] 24 (0, 0)) (by (with_reducible repeat (first | refine blk_drewN ?_ _ | refine blk_drew ?_ | refine blk_alloc ?_ _)); exact BK131.out) hb); have n4_ := Aside0.mk (below_step (by repeat (first | (with_reducible first | exact HB.out | apply below_alloc | apply pw_below_drewN | apply below_drew1 | refine below_set ?_ GE128.out | refine below_set ?_ GE131.out) | exact HB.out)) hb); have n5_ := Aside0.mk (hbox); have n6_ := Aside0.mk ((by rw [hg]; exact (below_size (by repeat (first | (with_reducible first | exact HB.out | apply below_alloc | apply pw_below_drewN | apply below_drew1 | refine below_set ?_ GE128.out | refine below_set ?_ GE131.out) | exact HB.out))) : w.heap.size ≤ gb144)); have n7_ := Aside0.mk ((by rw [hg]; exact (below_size (by repeat (first | (with_reducible first | exact HB.out | apply below_alloc | apply pw_below_drewN | apply below_drew1 | refine below_set ?_ GE128.out | refine below_set ?_ GE131.out) | exact HB.out))) : w.heap.size ≤ gb144)); have n8_ := Aside0.mk ((by rw [hg]; exact Nat.ne_of_lt (blk_lt (g := gb128) (o := .cells #[.int .i64 x129000_3, .int .i64 x129001_3, .string x129002_3, .slice none 0 0] 24 (0, 0)) (by (with_reducible repeat (first | refine blk_drewN ?_ _ | refine blk_drew ?_ | refine blk_alloc ?_ _)); exact BK128.out)) : gb128 ≠ gb144)); have n9_ := Aside0.mk ((by rw [hg]; exact Nat.ne_of_gt (blk_lt (g := gb128) (o := .cells #[.int .i64 x129000_3, .int .i64 x129001_3, .string x129002_3, .slice none 0 0] 24 (0, 0)) (by (with_reducible repeat (first | refine blk_drewN ?_ _ | refine blk_drew ?_ | refine blk_alloc ?_ _)); exact BK128.out)) : gb144 ≠ gb128)); have n10_ := Aside0.mk ((by rw [hg]; exact Nat.ne_of_lt (blk_lt (g := gb131) (o := .cells #[.int .i64 (wrap64 (Int.tdiv (wrap64 (rd l0 0)) 64)), .int .i64 0, .string (⟨#[]⟩ : ByteArray), u132003] 24 (0, 0)) (by (with_reducible repeat (first | refine blk_drewN ?_ _ | refine blk_drew ?_ | refine blk_alloc ?_ _)); exact BK131.out)) : gb131 ≠ gb144)); have n11_ := Aside0.mk ((by rw [hg]; exact Nat.ne_of_gt (blk_lt (g := gb131) (o := .cells #[.int .i64 (wrap64 (Int.tdiv (wrap64 (rd l0 0)) 64)), .int .i64 0, .string (⟨#[]⟩ : ByteArray), u132003] 24 (0, 0)) (by (with_reducible repeat (first | refine blk_drewN ?_ _ | refine blk_drew ?_ | refine blk_alloc ?_ _)); exact BK131.out)) : gb144 ≠ gb131)); clear HO_132003; clear HO142; clear BK128; clear BK131; clear HB; have HO_132003 := n0_; have HO142 := n1_; have BK128 := n2_; have BK131 := n3_; have HB := n4_; have BK144 := n5_; have GW144 := n6_; have GE144 := n7_; have NB128_144 := n8_; have NB144_128 := n9_; have NB131_144 := n10_; have NB144_131 := n11_; clear n0_ n1_ n2_ n3_ n4_ n5_ n6_ n7_ n8_ n9_ n10_ n11_; clear hb hbox hg; have hnb63 := NB144_128.out; have hnc63 := NB128_144.out; have hnb64 := NB144_131.out; have hnc64 := NB131_144.out; have hcz65_0 : w62.cell? ⟨gb144, 0, none⟩ = some (.int .i64 0) := (blk_cell BK144.out 0).trans rfl; have hcz65_1 : w62.cell? ⟨gb144, 1, none⟩ = some (.int .i64 0) := (blk_cell BK144.out 1).trans rfl; have hcz65_2 : w62.cell? ⟨gb144, 2, none⟩ = some (.string (⟨#[]⟩ : ByteArray)) := (blk_cell BK144.out 2).trans rfl; have hcz65_3 : w62.cell? ⟨gb144, 3, none⟩ = some (.slice none 0 0) := (blk_cell BK144.out 3).trans rfl; have hfz65_0 := blk_frozen BK144.out 0; have hfz65_1 := blk_frozen BK144.out 1; have hfz65_2 := blk_frozen BK144.out 2; have hfz65_3 := blk_frozen BK144.out 3; obtain ⟨Ao66, co66, eo66⟩ := Kd.R_slice HO142.out; subst eo66; have hnb67 := NB128_131.out; have hnc67 := NB131_128.out; have hcz68_0 : w62.cell? ⟨gb128, 0, none⟩ = some (.int .i64 x129000_3) := (blk_cell BK128.out 0).trans rfl; have hcz68_1 : w62.cell? ⟨gb128, 1, none⟩ = some (.int .i64 x129001_3) := (blk_cell BK128.out 1).trans rfl; have hcz68_2 : w62.cell? ⟨gb128, 2, none⟩ = some (.string x129002_3) := (blk_cell BK128.out 2).trans rfl; have hcz68_3 : w62.cell? ⟨gb128, 3, none⟩ = some (.slice none 0 0) := (blk_cell BK128.out 3).trans rfl; have hfz68_0 := blk_frozen BK128.out 0; have hfz68_1 := blk_frozen BK128.out 1; have hfz68_2 := blk_frozen BK128.out 2; have hfz68_3 := blk_frozen BK128.out 3))
                                refine bodyPost_ret (results_ct rfl _ _ gb128 24 #[.int .i64 0, .int .i64 0, .string (⟨#[]⟩ : ByteArray), .slice none 0 0] (0, 0) _ rfl (by (with_reducible repeat (first | refine blk_drewN ?_ _ | refine blk_drew ?_ | refine blk_alloc ?_ _)); refine blk_put (cs := #[.int .i64 0, .int .i64 0, .string (⟨#[]⟩ : ByteArray), .slice none 0 0]) ?_ 3 _ rfl; (with_reducible repeat (first | refine blk_drewN ?_ _ | refine blk_drew ?_ | refine blk_alloc ?_ _)); refine blk_put (cs := #[.int .i64 0, .int .i64 0, .string x129002_3, .slice none 0 0]) ?_ 2 _ rfl; (with_reducible repeat (first | refine blk_drewN ?_ _ | refine blk_drew ?_ | refine blk_alloc ?_ _)); refine blk_put (cs := #[.int .i64 0, .int .i64 x129001_3, .string x129002_3, .slice none 0 0]) ?_ 1 _ rfl; (with_reducible repeat (first | refine blk_drewN ?_ _ | refine blk_drew ?_ | refine blk_alloc ?_ _)); refine blk_put (cs := #[.int .i64 x129000_3, .int .i64 x129001_3, .string x129002_3, .slice none 0 0]) ?_ 0 _ rfl; (with_reducible repeat (first | refine blk_drewN ?_ _ | refine blk_drew ?_ | refine blk_alloc ?_ _)); refine blk_far ?_ NB128_144.out _; (with_reducible repeat (first | refine blk_drewN ?_ _ | refine blk_drew ?_ | refine blk_alloc ?_ _)); refine blk_far ?_ NB128_144.out _; (with_reducible repeat (first | refine blk_drewN ?_ _ | refine blk_drew ?_ | refine blk_alloc ?_ _)); refine blk_far ?_ NB128_144.out _; (with_reducible repeat (first | refine blk_drewN ?_ _ | refine blk_drew ?_ | refine blk_alloc ?_ _)); refine blk_far ?_ NB128_144.out _; (with_reducible repeat (first | refine blk_drewN ?_ _ | refine blk_drew ?_ | refine blk_alloc ?_ _)); exact BK128.out) Try.underlying24 rfl (by kernel_rfl)) rfl ?_
                                exact ⟨_, by first | rfl | (simp [errW_none, errW_some] <;> rfl) | (simp [*, errW_none, errW_some] <;> rfl), by first | exact Kd.R_nil _ _ _ _ _ | exact Kd.N_nil _ _ _ _ _ | exact Kd.V_nil _ _ _ _ _ | exact Kd.Q_nil _ _ _ _ _ | exact Kd.S_nil _ _ _ _ _, by repeat (first | (with_reducible first | exact HB.out | apply below_alloc | apply pw_below_drewN | apply below_drew1 | refine below_set ?_ GE128.out | refine below_set ?_ GE131.out | refine below_set ?_ GE144.out) | exact HB.out)⟩
                              · rw [if_neg c59] at H
                                have c59b0 : (t143 == 0) = false := beq_eq_false_iff_ne.mpr c59
                                have c59b1 : (t143 != 0) = true := bne_iff_ne.mpr c59
                                by_cases c69 : x132003_3.length < 2513169434916
                                · rw [if_pos c69] at H
                                  have LMc69 := Aside0.mk c69
                                  clear c69
                                  obtain ⟨y145, hy145⟩ : ∃ y_ : List (S24), y_ = (x132003_3 ++ [(⟨t137, t138, t139, t140⟩ : S24)]) := ⟨_, rfl⟩
                                  replace H : (vinculumref03_Read.l1 k3 l0 a1 x7_10 (wrap64 (x8_3 + t143)) (wrap64 (x11_3 + 1)) (wrap64 (Int.tdiv (wrap64 (rd l0 0)) 64)) 0 (⟨#[]⟩ : ByteArray) y145) = some (r1, r2, r3, r4, r5) := by first | (rw [hy145]; with_reducible exact H) | (have H2_ := (Option.bind_some _ _).symm.trans H; rw [hy145]; with_reducible exact H2_) | (have H2_ := (Option.bind_some _ _).symm.trans H; with_reducible exact H2_) | with_reducible exact H | (rw [hy145]; exact H) | exact H
                                  have Ny145 := Aside0.mk hy145
                                  clear hy145
                                  have H' := Aside0.mk H
                                  clear H
                                  obtain ⟨i070, hi070, _, hsz70, _⟩ := info_parts info5
                                  obtain ⟨A70, hcut70, hA70, hC70⟩ := print_drop_of (P := Try.prog) (Value.int .u8) 0 31 5 .i64 Try.underlying31 hi070 hsz70 (some ad130) c0 l0 x8_3 (of_decide_eq_true (by first | (with_reducible assumption) | assumption)) (of_decide_eq_true (by first | (with_reducible assumption) | assumption)) HC0.out
                                  have HR136 := Aside0.mk (Kd.C_of_reads (h1 := fun _ => rfl) (hA70 _ (Kd.reads_of_C HR0.out)))
                                  have HC136 := Aside0.mk hC70
                                  clear hA70 hC70 hi070 hsz70
                                  go_wp2_with (first | ((with_reducible refine gate_callee (f := 27) rfl ?_); refine goesL_ (some 96) rfl rfl Try.func27 (by kernel_rfl) rfl #[.slice A70 (l0.drop (x8_3 : Int).toNat).length (c0 - x8_3.toNat), .int .i64 (wrap64 (a1 - 1))] rfl (by (try simp only [List.map_toArray, List.map_cons, List.map_nil]); first | done | (rw [show (l0.drop (x8_3 : Int).toNat).length = (l0.length - x8_3.toNat) from List.length_drop] <;> rfl) | rfl | (simp only [List.length_drop, List.length_take]; rfl)) ?_; (with_reducible refine (ih k3 (by have := HJ2.out; have := HJ10.out; have := HK3.out; omega) _ _ (l0.drop (x8_3 : Int).toNat) (wrap64 (a1 - 1)) t137 t138 t139 t140 t143 _ ?side1 ?side2 A58.out).mono ?_); (case side1 => repeat (first | exact (Kd.C_below HR136.out HB.out) | (with_reducible refine Kd.C_alloc ?_ _) | (with_reducible refine Kd.C_drewN ?_ _) | (with_reducible refine Kd.C_drew ?_))); (case side2 => exact HC136.out); rintro e w71 ⟨v141, rfl, ho0, hb⟩; refine ⟨_, rfl, ?_⟩; have n0_ := Aside0.mk (Kd.R_elder' (by (with_reducible repeat (first | apply Kd.R_alloc | apply Kd.R_drewN | apply Kd.R_drew)); exact HO_132003.out) (Kd.R_base ho0) hb); have n1_ := Aside0.mk (Kd.R_lower (Kd.R_newB (Kd.R_newB (Kd.R_new' ho0 (Kd.R_lt (by (with_reducible repeat (first | apply Kd.R_alloc | apply Kd.R_drewN | apply Kd.R_drew)); exact HO_132003.out))) (g := gb128) (o := .cells #[.int .i64 x129000_3, .int .i64 x129001_3, .string x129002_3, .slice none 0 0] 24 (0, 0)) (by (with_reducible repeat (first | refine blk_drewN ?_ _ | refine blk_drew ?_ | refine blk_alloc ?_ _)); exact BK128.out)) (g := gb131) (o := .cells #[.int .i64 (wrap64 (Int.tdiv (wrap64 (rd l0 0)) 64)), .int .i64 0, .string (⟨#[]⟩ : ByteArray), u132003] 24 (0, 0)) (by (with_reducible repeat (first | refine blk_drewN ?_ _ | refine blk_drew ?_ | refine blk_alloc ?_ _)); exact BK131.out)) (below_size (by repeat (first | (with_reducible first | exact HB.out | apply below_alloc | apply pw_below_drewN | apply below_drew1 | refine below_set ?_ GE128.out | refine below_set ?_ GE131.out) | exact HB.out)))); have n2_ := Aside0.mk (blk_below (g := gb128) (o := .cells #[.int .i64 x129000_3, .int .i64 x129001_3, .string x129002_3, .slice none 0 0] 24 (0, 0)) (by (with_reducible repeat (first | refine blk_drewN ?_ _ | refine blk_drew ?_ | refine blk_alloc ?_ _)); exact BK128.out) hb); have n3_ := Aside0.mk (blk_below (g := gb131) (o := .cells #[.int .i64 (wrap64 (Int.tdiv (wrap64 (rd l0 0)) 64)), .int .i64 0, .string (⟨#[]⟩ : ByteArray), u132003] 24 (0, 0)) (by (with_reducible repeat (first | refine blk_drewN ?_ _ | refine blk_drew ?_ | refine blk_alloc ?_ _)); exact BK131.out) hb); have n4_ := Aside0.mk (below_step (by repeat (first | (with_reducible first | exact HB.out | apply below_alloc | apply pw_below_drewN | apply below_drew1 | refine below_set ?_ GE128.out | refine below_set ?_ GE131.out) | exact HB.out)) hb); clear HO_132003; clear BK128; clear BK131; clear HB; have HO_132003 := n0_; have HO142 := n1_; have BK128 := n2_; have BK131 := n3_; have HB := n4_; clear n0_ n1_ n2_ n3_ n4_; (try clear hb); (try clear hb2); (try clear hk); (try clear hi); (try clear ho0)) | ((with_reducible refine gate_dst (N := 12) rfl ?_); refine box_event ?hg (N := 12) ?hd (cs := #[.int .i64 0, .int .i64 0, .string (⟨#[]⟩ : ByteArray), .slice none 0 0]) (t := 24) ?hr ?_; (case hd => rfl); (case hg => rfl); (case hr => first | (go_simp; done) | (go_simp; rfl)); intro gb144 hg w72 hbox hb; have n0_ := Aside0.mk (Kd.R_below (Kd.R_elderB (by (with_reducible repeat (first | apply Kd.R_alloc | apply Kd.R_drewN | apply Kd.R_drew)); exact HO_132003.out) gb144 (Nat.le_of_eq hg.symm)) hb); have n1_ := Aside0.mk (Kd.R_below (Kd.R_elderB (by (with_reducible repeat (first | apply Kd.R_alloc | apply Kd.R_drewN | apply Kd.R_drew)); exact HO142.out) gb144 (Nat.le_of_eq hg.symm)) hb); have n2_ := Aside0.mk (blk_below (g := gb128) (o := .cells #[.int .i64 x129000_3, .int .i64 x129001_3, .string x129002_3, .slice none 0 0] 24 (0, 0)) (by (with_reducible repeat (first | refine blk_drewN ?_ _ | refine blk_drew ?_ | refine blk_alloc ?_ _)); exact BK128.out) hb); have n3_ := Aside0.mk (blk_below (g := gb131) (o := .cells #[.int .i64 (wrap64 (Int.tdiv (wrap64 (rd l0 0)) 64)), .int .i64 0, .string (⟨#[]⟩ : ByteArray), u132003] 24 (0, 0)) (by (with_reducible repeat (first | refine blk_drewN ?_ _ | refine blk_drew ?_ | refine blk_alloc ?_ _)); exact BK131.out) hb); have n4_ := Aside0.mk (below_step (by repeat (first | (with_reducible first | exact HB.out | apply below_alloc | apply pw_below_drewN | apply below_drew1 | refine below_set ?_ GE128.out | refine below_set ?_ GE131.out) | exact HB.out)) hb); have n5_ := Aside0.mk (hbox); have n6_ := Aside0.mk ((by rw [hg]; exact (below_size (by repeat (first | (with_reducible first | exact HB.out | apply below_alloc | apply pw_below_drewN | apply below_drew1 | refine below_set ?_ GE128.out | refine below_set ?_ GE131.out) | exact HB.out))) : w.heap.size ≤ gb144)); have n7_ := Aside0.mk ((by rw [hg]; exact (below_size (by repeat (first | (with_reducible first | exact HB.out | apply below_alloc | apply pw_below_drewN | apply below_drew1 | refine below_set ?_ GE128.out | refine below_set ?_ GE131.out) | exact HB.out))) : w.heap.size ≤ gb144)); have n8_ := Aside0.mk ((by rw [hg]; exact Nat.ne_of_lt (blk_lt (g := gb128) (o := .cells #[.int .i64 x129000_3, .int .i64 x129001_3, .string x129002_3, .slice none 0 0] 24 (0, 0)) (by (with_reducible repeat (first | refine blk_drewN ?_ _ | refine blk_drew ?_ | refine blk_alloc ?_ _)); exact BK128.out)) : gb128 ≠ gb144)); have n9_ := Aside0.mk ((by rw [hg]; exact Nat.ne_of_gt (blk_lt (g := gb128) (o := .cells #[.int .i64 x129000_3, .int .i64 x129001_3, .string x129002_3, .slice none 0 0] 24 (0, 0)) (by (with_reducible repeat (first | refine blk_drewN ?_ _ | refine blk_drew ?_ | refine blk_alloc ?_ _)); exact BK128.out)) : gb144 ≠ gb128)); have n10_ := Aside0.mk ((by rw [hg]; exact Nat.ne_of_lt (blk_lt (g := gb131) (o := .cells #[.int .i64 (wrap64 (Int.tdiv (wrap64 (rd l0 0)) 64)), .int .i64 0, .string (⟨#[]⟩ : ByteArray), u132003] 24 (0, 0)) (by (with_reducible repeat (first | refine blk_drewN ?_ _ | refine blk_drew ?_ | refine blk_alloc ?_ _)); exact BK131.out)) : gb131 ≠ gb144)); have n11_ := Aside0.mk ((by rw [hg]; exact Nat.ne_of_gt (blk_lt (g := gb131) (o := .cells #[.int .i64 (wrap64 (Int.tdiv (wrap64 (rd l0 0)) 64)), .int .i64 0, .string (⟨#[]⟩ : ByteArray), u132003] 24 (0, 0)) (by (with_reducible repeat (first | refine blk_drewN ?_ _ | refine blk_drew ?_ | refine blk_alloc ?_ _)); exact BK131.out)) : gb144 ≠ gb131)); clear HO_132003; clear HO142; clear BK128; clear BK131; clear HB; have HO_132003 := n0_; have HO142 := n1_; have BK128 := n2_; have BK131 := n3_; have HB := n4_; have BK144 := n5_; have GW144 := n6_; have GE144 := n7_; have NB128_144 := n8_; have NB144_128 := n9_; have NB131_144 := n10_; have NB144_131 := n11_; clear n0_ n1_ n2_ n3_ n4_ n5_ n6_ n7_ n8_ n9_ n10_ n11_; clear hb hbox hg; have hnb73 := NB144_128.out; have hnc73 := NB128_144.out; have hnb74 := NB144_131.out; have hnc74 := NB131_144.out; have hcz75_0 : w72.cell? ⟨gb144, 0, none⟩ = some (.int .i64 0) := (blk_cell BK144.out 0).trans rfl; have hcz75_1 : w72.cell? ⟨gb144, 1, none⟩ = some (.int .i64 0) := (blk_cell BK144.out 1).trans rfl; have hcz75_2 : w72.cell? ⟨gb144, 2, none⟩ = some (.string (⟨#[]⟩ : ByteArray)) := (blk_cell BK144.out 2).trans rfl; have hcz75_3 : w72.cell? ⟨gb144, 3, none⟩ = some (.slice none 0 0) := (blk_cell BK144.out 3).trans rfl; have hfz75_0 := blk_frozen BK144.out 0; have hfz75_1 := blk_frozen BK144.out 1; have hfz75_2 := blk_frozen BK144.out 2; have hfz75_3 := blk_frozen BK144.out 3; obtain ⟨Ao76, co76, eo76⟩ := Kd.R_slice HO142.out; subst eo76) | ((with_reducible refine gate_store (t := 24) (p := 12) rfl ?_); refine store_event (t := 24) (p := 12) (v := ?vo_w77) (w1 := ((((w72.setCell ⟨gb144, 0, none⟩ (.int .i64 t137)).setCell ⟨gb144, 1, none⟩ (.int .i64 t138)).setCell ⟨gb144, 2, none⟩ (.string t139)).setCell ⟨gb144, 3, none⟩ (.slice Ao76 t140.length co76))) ?hg ?ho ?hn ?hr ?_; (case ho => rfl); (case hg => rfl); (case hn => rfl); (case hr => first | (go_simp; done) | (go_simp; rfl)); intro w77 hw; have n0_ : Aside0 (Kd.R k24 24 w77 w.heap.size (fun k_ => some k_ ≠ (.slice Ao76 t140.length co76 : Value).ownBlock ∧ k_ ≠ gb128 ∧ k_ ≠ gb131 ∧ k_ ≠ gb144) u132003 x132003_3) := ⟨(by rw [hw]; exact (by (with_reducible repeat (first | apply Kd.R_alloc | apply Kd.R_drewN | apply Kd.R_drew)); exact Kd.R_mono (Kd.R_far (p := ⟨gb144, 3, none⟩) (Kd.R_far (p := ⟨gb144, 2, none⟩) (Kd.R_far (p := ⟨gb144, 1, none⟩) (Kd.R_far (p := ⟨gb144, 0, none⟩) (Kd.R_mono HO_132003.out (fun k_ hk => (⟨hk, hk.2⟩ : _ ∧ k_ ≠ gb144))) (fun _ hk => hk.2) (.int .i64 t137)) (fun _ hk => hk.2) (.int .i64 t138)) (fun _ hk => hk.2) (.string t139)) (fun _ hk => hk.2) (.slice Ao76 t140.length co76)) (fun _ hk => ⟨hk.1.1.2, ⟨hk.1.1.1.1, ⟨hk.1.1.1.2, hk.1.2⟩⟩⟩)))⟩; have n1_ : Aside0 (Kd.R k24 24 w77 w.heap.size (fun k_ => some k_ ≠ (u132003 : Value).ownBlock ∧ k_ ≠ gb128 ∧ k_ ≠ gb131 ∧ k_ ≠ gb144) (.slice Ao76 t140.length co76) t140) := ⟨(by rw [hw]; exact (by (with_reducible repeat (first | apply Kd.R_alloc | apply Kd.R_drewN | apply Kd.R_drew)); exact Kd.R_mono (Kd.R_far (p := ⟨gb144, 3, none⟩) (Kd.R_far (p := ⟨gb144, 2, none⟩) (Kd.R_far (p := ⟨gb144, 1, none⟩) (Kd.R_far (p := ⟨gb144, 0, none⟩) (Kd.R_mono HO142.out (fun k_ hk => (⟨hk, hk.2⟩ : _ ∧ k_ ≠ gb144))) (fun _ hk => hk.2) (.int .i64 t137)) (fun _ hk => hk.2) (.int .i64 t138)) (fun _ hk => hk.2) (.string t139)) (fun _ hk => hk.2) (.slice Ao76 t140.length co76)) (fun _ hk => ⟨hk.1.1.1.1.2, ⟨hk.1.1.1.2, ⟨hk.1.1.2, hk.1.2⟩⟩⟩)))⟩; have n2_ : Aside0 (w77.heap[gb128]? = some (.cells #[.int .i64 x129000_3, .int .i64 x129001_3, .string x129002_3, .slice none 0 0] 24 (0, 0))) := ⟨(by rw [hw]; exact (by (with_reducible repeat (first | refine blk_drewN ?_ _ | refine blk_drew ?_ | refine blk_alloc ?_ _)); refine blk_far ?_ NB128_144.out _; (with_reducible repeat (first | refine blk_drewN ?_ _ | refine blk_drew ?_ | refine blk_alloc ?_ _)); refine blk_far ?_ NB128_144.out _; (with_reducible repeat (first | refine blk_drewN ?_ _ | refine blk_drew ?_ | refine blk_alloc ?_ _)); refine blk_far ?_ NB128_144.out _; (with_reducible repeat (first | refine blk_drewN ?_ _ | refine blk_drew ?_ | refine blk_alloc ?_ _)); refine blk_far ?_ NB128_144.out _; (with_reducible repeat (first | refine blk_drewN ?_ _ | refine blk_drew ?_ | refine blk_alloc ?_ _)); exact BK128.out))⟩; have n3_ : Aside0 (w77.heap[gb131]? = some (.cells #[.int .i64 (wrap64 (Int.tdiv (wrap64 (rd l0 0)) 64)), .int .i64 0, .string (⟨#[]⟩ : ByteArray), u132003] 24 (0, 0))) := ⟨(by rw [hw]; exact (by (with_reducible repeat (first | refine blk_drewN ?_ _ | refine blk_drew ?_ | refine blk_alloc ?_ _)); refine blk_far ?_ NB131_144.out _; (with_reducible repeat (first | refine blk_drewN ?_ _ | refine blk_drew ?_ | refine blk_alloc ?_ _)); refine blk_far ?_ NB131_144.out _; (with_reducible repeat (first | refine blk_drewN ?_ _ | refine blk_drew ?_ | refine blk_alloc ?_ _)); refine blk_far ?_ NB131_144.out _; (with_reducible repeat (first | refine blk_drewN ?_ _ | refine blk_drew ?_ | refine blk_alloc ?_ _)); refine blk_far ?_ NB131_144.out _; (with_reducible repeat (first | refine blk_drewN ?_ _ | refine blk_drew ?_ | refine blk_alloc ?_ _)); exact BK131.out))⟩; have n4_ : Aside0 (w77.heap[gb144]? = some (.cells #[.int .i64 t137, .int .i64 t138, .string t139, .slice Ao76 t140.length co76] 24 (0, 0))) := ⟨(by rw [hw]; exact (by (with_reducible repeat (first | refine blk_drewN ?_ _ | refine blk_drew ?_ | refine blk_alloc ?_ _)); refine blk_put (cs := #[.int .i64 t137, .int .i64 t138, .string t139, .slice none 0 0]) ?_ 3 _ rfl; (with_reducible repeat (first | refine blk_drewN ?_ _ | refine blk_drew ?_ | refine blk_alloc ?_ _)); refine blk_put (cs := #[.int .i64 t137, .int .i64 t138, .string (⟨#[]⟩ : ByteArray), .slice none 0 0]) ?_ 2 _ rfl; (with_reducible repeat (first | refine blk_drewN ?_ _ | refine blk_drew ?_ | refine blk_alloc ?_ _)); refine blk_put (cs := #[.int .i64 t137, .int .i64 0, .string (⟨#[]⟩ : ByteArray), .slice none 0 0]) ?_ 1 _ rfl; (with_reducible repeat (first | refine blk_drewN ?_ _ | refine blk_drew ?_ | refine blk_alloc ?_ _)); refine blk_put (cs := #[.int .i64 0, .int .i64 0, .string (⟨#[]⟩ : ByteArray), .slice none 0 0]) ?_ 0 _ rfl; (with_reducible repeat (first | refine blk_drewN ?_ _ | refine blk_drew ?_ | refine blk_alloc ?_ _)); exact BK144.out))⟩; have n5_ : Aside0 (Below w.heap.size w w77) := ⟨(by rw [hw]; exact (by repeat (first | (with_reducible first | exact HB.out | apply below_alloc | apply pw_below_drewN | apply below_drew1 | refine below_set ?_ GE128.out | refine below_set ?_ GE131.out | refine below_set ?_ GE144.out) | exact HB.out)))⟩; clear hw; clear HO_132003; clear HO142; clear BK128; clear BK131; clear BK144; clear HB; have HO_132003 := n0_; have HO142 := n1_; have BK128 := n2_; have BK131 := n3_; have BK144 := n4_; have HB := n5_; clear n0_ n1_ n2_ n3_ n4_ n5_; have hnb78 := NB131_128.out; have hnc78 := NB128_131.out; have hcz79_0 : w77.cell? ⟨gb131, 0, none⟩ = some (.int .i64 (wrap64 (Int.tdiv (wrap64 (rd l0 0)) 64))) := (blk_cell BK131.out 0).trans rfl; have hcz79_1 : w77.cell? ⟨gb131, 1, none⟩ = some (.int .i64 0) := (blk_cell BK131.out 1).trans rfl; have hcz79_2 : w77.cell? ⟨gb131, 2, none⟩ = some (.string (⟨#[]⟩ : ByteArray)) := (blk_cell BK131.out 2).trans rfl; have hcz79_3 : w77.cell? ⟨gb131, 3, none⟩ = some (u132003) := (blk_cell BK131.out 3).trans rfl; have hfz79_0 := blk_frozen BK131.out 0; have hfz79_1 := blk_frozen BK131.out 1; have hfz79_2 := blk_frozen BK131.out 2; have hfz79_3 := blk_frozen BK131.out 3; have hcz80_0 : w77.cell? ⟨gb144, 0, none⟩ = some (.int .i64 t137) := (blk_cell BK144.out 0).trans rfl; have hcz80_1 : w77.cell? ⟨gb144, 1, none⟩ = some (.int .i64 t138) := (blk_cell BK144.out 1).trans rfl; have hcz80_2 : w77.cell? ⟨gb144, 2, none⟩ = some (.string t139) := (blk_cell BK144.out 2).trans rfl; have hcz80_3 : w77.cell? ⟨gb144, 3, none⟩ = some (.slice Ao76 t140.length co76) := (blk_cell BK144.out 3).trans rfl; have hfz80_0 := blk_frozen BK144.out 0; have hfz80_1 := blk_frozen BK144.out 1; have hfz80_2 := blk_frozen BK144.out 2; have hfz80_3 := blk_frozen BK144.out 3) | ((with_reducible refine gate_builtin (b := .append) (xs := #[.tmp 103, .tmp 105]) rfl ?_); at_builtin; refine Kd.R_append k24 (w0 := w) w.heap.size rfl (.tmp 103) (.tmp 105) 22 24 (.agg #[(.int .i64 0), (.int .i64 0), (.string ⟨#[]⟩), (.slice none 0 0)]) 56 rfl Try.underlying22 info24 rfl (by decide) (by omega) u132003 x132003_3 (⟨t137, t138, t139, t140⟩ : S24) [.int .i64 t137, .int .i64 t138, .string t139, .slice Ao76 t140.length co76] (fun k_ => k_ ≠ gb128 ∧ k_ ≠ gb131 ∧ k_ ≠ gb144) (fun k_ => ((fun k_ => k_ ≠ gb128 ∧ k_ ≠ gb131 ∧ k_ ≠ gb144)) k_ ∧ some k_ ≠ (u132003 : Value).ownBlock) rfl rfl ?aP (fun _ hk => hk) ?aF ?aO ?aB ?aS ?aL ?_; (case aP => exact k24_mkM _ _ _ (⟨t137, t138, t139, t140⟩ : S24) (Kd.R_mono (HO142.out) (fun k_ hk => ⟨⟨hk.2.1, ⟨hk.2.2.1, hk.2.2.2⟩⟩, hk.1⟩))); (case aB => exact (by repeat (first | (with_reducible first | exact HB.out | apply below_alloc | apply pw_below_drewN | apply below_drew1 | refine below_set ?_ GE128.out | refine below_set ?_ GE131.out | refine below_set ?_ GE144.out) | exact HB.out))); (case aF => exact (fun k_ hk => ⟨Kd.freshB (g := gb128) (o := .cells #[.int .i64 x129000_3, .int .i64 x129001_3, .string x129002_3, .slice none 0 0] 24 (0, 0)) (by (with_reducible repeat (first | refine blk_drewN ?_ _ | refine blk_drew ?_ | refine blk_alloc ?_ _)); exact BK128.out) k_ hk, Kd.freshB (g := gb131) (o := .cells #[.int .i64 (wrap64 (Int.tdiv (wrap64 (rd l0 0)) 64)), .int .i64 0, .string (⟨#[]⟩ : ByteArray), u132003] 24 (0, 0)) (by (with_reducible repeat (first | refine blk_drewN ?_ _ | refine blk_drew ?_ | refine blk_alloc ?_ _)); exact BK131.out) k_ hk, Kd.freshB (g := gb144) (o := .cells #[.int .i64 t137, .int .i64 t138, .string t139, .slice Ao76 t140.length co76] 24 (0, 0)) (by (with_reducible repeat (first | refine blk_drewN ?_ _ | refine blk_drew ?_ | refine blk_alloc ?_ _)); exact BK144.out) k_ hk⟩)); (case aO => exact (by (with_reducible repeat (first | apply Kd.R_alloc | apply Kd.R_drewN | apply Kd.R_drew)); exact Kd.R_mono HO_132003.out (fun _ hk => ⟨hk.2.1, ⟨hk.2.2.1, hk.2.2.2⟩⟩))); (case aS => exact (below_size (by repeat (first | (with_reducible first | exact HB.out | apply below_alloc | apply pw_below_drewN | apply below_drew1 | refine below_set ?_ GE128.out | refine below_set ?_ GE131.out | refine below_set ?_ GE144.out) | exact HB.out)))); (case aL => have := LMc69.out; omega); intro v146 w81 ho hb hg hat; rw [← Ny145.out] at ho; have n0_ := Aside0.mk (blk_grown (g := gb128) (o := .cells #[.int .i64 x129000_3, .int .i64 x129001_3, .string x129002_3, .slice none 0 0] 24 (0, 0)) (by (with_reducible repeat (first | refine blk_drewN ?_ _ | refine blk_drew ?_ | refine blk_alloc ?_ _)); exact BK128.out) hg (Kd.R_away HO_132003.out (fun _ hk => hk.2.1))); have n1_ := Aside0.mk (blk_grown (g := gb131) (o := .cells #[.int .i64 (wrap64 (Int.tdiv (wrap64 (rd l0 0)) 64)), .int .i64 0, .string (⟨#[]⟩ : ByteArray), u132003] 24 (0, 0)) (by (with_reducible repeat (first | refine blk_drewN ?_ _ | refine blk_drew ?_ | refine blk_alloc ?_ _)); exact BK131.out) hg (Kd.R_away HO_132003.out (fun _ hk => hk.2.2.1))); have n2_ := Aside0.mk (blk_grown (g := gb144) (o := .cells #[.int .i64 t137, .int .i64 t138, .string t139, .slice Ao76 t140.length co76] 24 (0, 0)) (by (with_reducible repeat (first | refine blk_drewN ?_ _ | refine blk_drew ?_ | refine blk_alloc ?_ _)); exact BK144.out) hg (Kd.R_away HO_132003.out (fun _ hk => hk.2.2.2))); have n3_ := Aside0.mk (hb); have n4_ := Aside0.mk (ho); clear BK128; clear BK131; clear BK144; clear HB; clear HO_132003; clear HO142; have BK128 := n0_; have BK131 := n1_; have BK144 := n2_; have HB := n3_; have HO147 := n4_; clear n0_ n1_ n2_ n3_ n4_; clear ho hb hg hat; obtain ⟨Ao82, co82, eo82⟩ := Kd.R_slice HO147.out; subst eo82; have hcz83_0 : w81.cell? ⟨gb131, 0, none⟩ = some (.int .i64 (wrap64 (Int.tdiv (wrap64 (rd l0 0)) 64))) := (blk_cell BK131.out 0).trans rfl; have hcz83_1 : w81.cell? ⟨gb131, 1, none⟩ = some (.int .i64 0) := (blk_cell BK131.out 1).trans rfl; have hcz83_2 : w81.cell? ⟨gb131, 2, none⟩ = some (.string (⟨#[]⟩ : ByteArray)) := (blk_cell BK131.out 2).trans rfl; have hcz83_3 : w81.cell? ⟨gb131, 3, none⟩ = some (u132003) := (blk_cell BK131.out 3).trans rfl; have hfz83_0 := blk_frozen BK131.out 0; have hfz83_1 := blk_frozen BK131.out 1; have hfz83_2 := blk_frozen BK131.out 2; have hfz83_3 := blk_frozen BK131.out 3))
                                  go_roundg k3
                                  case measure => have := HJ2.out; have := HJ10.out; have := HK3.out; omega
                                  case rel => exact ⟨(wrap64 (x8_3 + t143)), (wrap64 (x11_3 + 1)), (x129000_3), (x129001_3), (x129002_3), (y145), (.slice Ao82 y145.length co82), (by first | rfl | (simp; done) | (simp [*]; done) | (simp [ne_nil_bool]; done)), (by first | rfl | (simp; done) | (simp [*]; done) | (simp [ne_nil_bool]; done)), H', ⟨by have := HJ2.out; have := HJ10.out; have := HK3.out; omega⟩, ⟨by (with_reducible repeat (first | apply Kd.R_alloc | apply Kd.R_drewN | apply Kd.R_drew)); exact Kd.R_mono (Kd.R_far (p := ⟨gb131, 3, none⟩) (Kd.R_mono HO147.out (fun k_ hk => (⟨hk, hk.2.1⟩ : _ ∧ k_ ≠ gb131))) (fun _ hk => hk.2) (.slice Ao82 y145.length co82)) (fun _ hk => ⟨hk.1.1, hk.1.2.1⟩)⟩, ⟨by (with_reducible repeat (first | refine blk_drewN ?_ _ | refine blk_drew ?_ | refine blk_alloc ?_ _)); refine blk_far ?_ NB128_131.out _; (with_reducible repeat (first | refine blk_drewN ?_ _ | refine blk_drew ?_ | refine blk_alloc ?_ _)); exact BK128.out⟩, ⟨by (with_reducible repeat (first | refine blk_drewN ?_ _ | refine blk_drew ?_ | refine blk_alloc ?_ _)); refine blk_put (cs := #[.int .i64 (wrap64 (Int.tdiv (wrap64 (rd l0 0)) 64)), .int .i64 0, .string (⟨#[]⟩ : ByteArray), u132003]) ?_ 3 _ rfl; (with_reducible repeat (first | refine blk_drewN ?_ _ | refine blk_drew ?_ | refine blk_alloc ?_ _)); exact BK131.out⟩, ⟨by repeat (first | (with_reducible first | exact HB.out | apply below_alloc | apply pw_below_drewN | apply below_drew1 | refine below_set ?_ GE128.out | refine below_set ?_ GE131.out | refine below_set ?_ GE144.out) | exact HB.out)⟩⟩
                                · rw [if_neg c69] at H
                                  exact absurd H (by simp)
                            · rw [if_neg c57] at H
                              exact absurd H (by simp)
                          · rw [if_neg c56] at H
                            exact absurd H (by simp)
                        · rw [if_neg c55] at H
                          have c55b0 : decide (x11_3 < (wrap64 (x7_10))) = false := decide_eq_false c55
                          clear c55
                          simp only [Option.some.injEq, Prod.mk.injEq] at H
                          obtain ⟨rfl, rfl, rfl, rfl, rfl⟩ := H
                          have hnb84 := NB131_128.out
                          have hnc84 := NB128_131.out
                          have hcz85_0 : wr.cell? ⟨gb131, 0, none⟩ = some (.int .i64 (wrap64 (Int.tdiv (wrap64 (rd l0 0)) 64))) := (blk_cell BK131.out 0).trans rfl
                          have hcz85_1 : wr.cell? ⟨gb131, 1, none⟩ = some (.int .i64 0) := (blk_cell BK131.out 1).trans rfl
                          have hcz85_2 : wr.cell? ⟨gb131, 2, none⟩ = some (.string (⟨#[]⟩ : ByteArray)) := (blk_cell BK131.out 2).trans rfl
                          have hcz85_3 : wr.cell? ⟨gb131, 3, none⟩ = some (u132003) := (blk_cell BK131.out 3).trans rfl
                          have hfz85_0 := blk_frozen BK131.out 0
                          have hfz85_1 := blk_frozen BK131.out 1
                          have hfz85_2 := blk_frozen BK131.out 2
                          have hfz85_3 := blk_frozen BK131.out 3
                          have hcz86_0 : wr.cell? ⟨gb128, 0, none⟩ = some (.int .i64 x129000_3) := (blk_cell BK128.out 0).trans rfl
                          have hcz86_1 : wr.cell? ⟨gb128, 1, none⟩ = some (.int .i64 x129001_3) := (blk_cell BK128.out 1).trans rfl
                          have hcz86_2 : wr.cell? ⟨gb128, 2, none⟩ = some (.string x129002_3) := (blk_cell BK128.out 2).trans rfl
                          have hcz86_3 : wr.cell? ⟨gb128, 3, none⟩ = some (.slice none 0 0) := (blk_cell BK128.out 3).trans rfl
                          have hfz86_0 := blk_frozen BK128.out 0
                          have hfz86_1 := blk_frozen BK128.out 1
                          have hfz86_2 := blk_frozen BK128.out 2
                          have hfz86_3 := blk_frozen BK128.out 3
                          obtain ⟨Ao87, co87, eo87⟩ := Kd.R_slice HO_132003.out
                          subst eo87
                          go_wp2
                          refine bodyPost_ret (results_ct rfl _ _ gb128 24 #[.int .i64 (wrap64 (Int.tdiv (wrap64 (rd l0 0)) 64)), .int .i64 0, .string (⟨#[]⟩ : ByteArray), .slice Ao87 x132003_3.length co87] (0, 0) _ rfl (by (with_reducible repeat (first | refine blk_drewN ?_ _ | refine blk_drew ?_ | refine blk_alloc ?_ _)); refine blk_put (cs := #[.int .i64 (wrap64 (Int.tdiv (wrap64 (rd l0 0)) 64)), .int .i64 0, .string (⟨#[]⟩ : ByteArray), .slice none 0 0]) ?_ 3 _ rfl; (with_reducible repeat (first | refine blk_drewN ?_ _ | refine blk_drew ?_ | refine blk_alloc ?_ _)); refine blk_put (cs := #[.int .i64 (wrap64 (Int.tdiv (wrap64 (rd l0 0)) 64)), .int .i64 0, .string x129002_3, .slice none 0 0]) ?_ 2 _ rfl; (with_reducible repeat (first | refine blk_drewN ?_ _ | refine blk_drew ?_ | refine blk_alloc ?_ _)); refine blk_put (cs := #[.int .i64 (wrap64 (Int.tdiv (wrap64 (rd l0 0)) 64)), .int .i64 x129001_3, .string x129002_3, .slice none 0 0]) ?_ 1 _ rfl; (with_reducible repeat (first | refine blk_drewN ?_ _ | refine blk_drew ?_ | refine blk_alloc ?_ _)); refine blk_put (cs := #[.int .i64 x129000_3, .int .i64 x129001_3, .string x129002_3, .slice none 0 0]) ?_ 0 _ rfl; (with_reducible repeat (first | refine blk_drewN ?_ _ | refine blk_drew ?_ | refine blk_alloc ?_ _)); exact BK128.out) Try.underlying24 rfl (by kernel_rfl)) rfl ?_
                          exact ⟨_, by first | rfl | (simp [errW_none, errW_some] <;> rfl) | (simp [*, errW_none, errW_some] <;> rfl), by (with_reducible repeat (first | apply Kd.R_alloc | apply Kd.R_drewN | apply Kd.R_drew)); exact Kd.R_mono (Kd.R_far (p := ⟨gb128, 3, none⟩) (Kd.R_far (p := ⟨gb128, 2, none⟩) (Kd.R_far (p := ⟨gb128, 1, none⟩) (Kd.R_far (p := ⟨gb128, 0, none⟩) (Kd.R_mono HO_132003.out (fun k_ hk => (⟨hk, hk.1⟩ : _ ∧ k_ ≠ gb128))) (fun _ hk => hk.2) (.int .i64 (wrap64 (Int.tdiv (wrap64 (rd l0 0)) 64)))) (fun _ hk => hk.2) (.int .i64 0)) (fun _ hk => hk.2) (.string (⟨#[]⟩ : ByteArray))) (fun _ hk => hk.2) (.slice Ao87 x132003_3.length co87)) (fun _ hk => trivial), by repeat (first | (with_reducible first | exact HB.out | apply below_alloc | apply pw_below_drewN | apply below_drew1 | refine below_set ?_ GE128.out | refine below_set ?_ GE131.out) | exact HB.out)⟩
        · rw [if_neg c10] at H
          exact absurd H (by simp)

end Go.Proofs.Ytploigkfnkgjiaa.PD
