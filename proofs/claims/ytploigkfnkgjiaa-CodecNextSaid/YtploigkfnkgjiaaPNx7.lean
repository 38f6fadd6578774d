-- Written by a program of this place (wip/gen.py) with the kit's print; not trusted: Lean checks it.
import Derived.Test.YtploigkfnkgjiaaPNx0
namespace Go.Proofs.Ytploigkfnkgjiaa.PN
open Go.RowKit Go.Proofs.YtploigkfnkgjiaaW.PrintWords Go.Proofs.YtploigkfnkgjiaaW.PrintLast Go.Proofs.YtploigkfnkgjiaaW.PrintMore
attribute [local go_sem] max2_int min2_int max_two min_two max_three min_three max_four min_four   -- for this text's walks alone
set_option linter.unusedVariables false
set_option linter.unusedSimpArgs false

/-! ### vinculumref03_Read: function 27 -/
mutual
def vinculumref03_Read.j0 : Nat → List Int → Int → Bool → Option (Int × Int × ByteArray × (List (S24)) × Int)
  | 0, _, _, _ => none
  | k + 1, x0, x1, x26 => if x26 = true then (some (0, 0, (⟨#[]⟩ : ByteArray), ([] : List (S24)), 0)) else (if 0 < (x0.length : Int) then (if (IntKind.u64.wrap (Int.tmod (rd x0 0) 64)) ≥ 56 then (if (x0.length : Int) < (wrap64 (1 + (wrap64 ((wrap64 (IntKind.u64.wrap (Int.tmod (rd x0 0) 64))) - 55)))) then (vinculumref03_Read.j1 k x0 x1 (wrap64 ((wrap64 (IntKind.u64.wrap (Int.tmod (rd x0 0) 64))) - 55)) true (wrap64 (Int.tdiv (wrap64 (rd x0 0)) 64)) 0 (⟨#[]⟩ : ByteArray)) else (if 1 < (x0.length : Int) then (vinculumref03_Read.j1 k x0 x1 (wrap64 ((wrap64 (IntKind.u64.wrap (Int.tmod (rd x0 0) 64))) - 55)) ((rd x0 1) == 0) (wrap64 (Int.tdiv (wrap64 (rd x0 0)) 64)) 0 (⟨#[]⟩ : ByteArray)) else (none))) else (vinculumref03_Read.j3 k x0 x1 (IntKind.u64.wrap (Int.tmod (rd x0 0) 64)) 1 (wrap64 (Int.tdiv (wrap64 (rd x0 0)) 64)) 0 (⟨#[]⟩ : ByteArray))) else (none))
def vinculumref03_Read.j3 : Nat → List Int → Int → Int → Int → Int → Int → ByteArray → Option (Int × Int × ByteArray × (List (S24)) × Int)
  | 0, _, _, _, _, _, _, _ => none
  | k + 1, x0, x1, x7, x8, x152000, x152001, x152002 => if x152000 = 1 then (if (Int.tmod x7 2) = 1 then (some (x152000, wrap64 ((wrap64 (-(wrap64 (IntKind.u64.wrap (Int.tdiv x7 2))))) - 1), x152002, ([] : List (S24)), x8)) else (some (x152000, wrap64 (IntKind.u64.wrap (Int.tdiv x7 2)), x152002, ([] : List (S24)), x8))) else (if x152000 = 2 then (if x7 > (IntKind.u64.wrap (wrap64 ((x0.length : Int) - x8))) then (some (0, 0, (⟨#[]⟩ : ByteArray), ([] : List (S24)), 0)) else (if 0 ≤ x8 then (if x8 ≤ (wrap64 (x8 + (wrap64 (x7)))) then (if (wrap64 (x8 + (wrap64 (x7)))) ≤ (x0.length : Int) then (some (x152000, x152001, strOfNums ((x0.take ((wrap64 (x8 + (wrap64 (x7)))) : Int).toNat).drop (x8 : Int).toNat), ([] : List (S24)), wrap64 (x8 + (wrap64 (x7))))) else (none)) else (none)) else (none))) else (if x7 > (IntKind.u64.wrap (wrap64 ((x0.length : Int) - x8))) then (some (0, 0, (⟨#[]⟩ : ByteArray), ([] : List (S24)), 0)) else (vinculumref03_Read.l1 k x0 x1 x7 x8 0 x152000 x152001 x152002 ([] : List (S24)))))
def vinculumref03_Read.l1 : Nat → List Int → Int → Int → Int → Int → Int → Int → ByteArray → List (S24) → Option (Int × Int × ByteArray × (List (S24)) × Int)
  | 0, _, _, _, _, _, _, _, _, _ => none
  | k + 1, x0, x1, x7, x8, x11, x152000, x152001, x152002, x152003 => if x11 < (wrap64 (x7)) then (if 0 ≤ x8 then (if x8 ≤ (x0.length : Int) then ((vinculumref03_Read.f k (x0.drop (x8 : Int).toNat) (wrap64 (x1 - 1))).bind fun bt157 => (if bt157.2.2.2.2 = 0 then (some (0, 0, (⟨#[]⟩ : ByteArray), ([] : List (S24)), 0)) else (if x152003.length < 2513169434916 then (vinculumref03_Read.l1 k x0 x1 x7 (wrap64 (x8 + bt157.2.2.2.2)) (wrap64 (x11 + 1)) x152000 x152001 x152002 (x152003 ++ [(⟨bt157.1, bt157.2.1, bt157.2.2.1, bt157.2.2.2.1⟩ : S24)])) else (none)))) else (none)) else (none)) else (some (x152000, x152001, x152002, x152003, x8))
def vinculumref03_Read.j1 : Nat → List Int → Int → Int → Bool → Int → Int → ByteArray → Option (Int × Int × ByteArray × (List (S24)) × Int)
  | 0, _, _, _, _, _, _, _ => none
  | k + 1, x0, x1, x9, x54, x152000, x152001, x152002 => if x54 = true then (some (0, 0, (⟨#[]⟩ : ByteArray), ([] : List (S24)), 0)) else (vinculumref03_Read.l0 k x0 x1 0 (wrap64 (1 + x9)) x9 1 x152000 x152001 x152002)
def vinculumref03_Read.l0 : Nat → List Int → Int → Int → Int → Int → Int → Int → Int → ByteArray → Option (Int × Int × ByteArray × (List (S24)) × Int)
  | 0, _, _, _, _, _, _, _, _, _ => none
  | k + 1, x0, x1, x7, x8, x9, x10, x152000, x152001, x152002 => if x10 ≤ x9 then (if 0 ≤ x10 then (if x10 < (x0.length : Int) then (vinculumref03_Read.l0 k x0 x1 (IntKind.u64.wrap ((IntKind.u64.wrap (256 * x7)) + (IntKind.u64.wrap (rd x0 x10)))) x8 x9 (wrap64 (x10 + 1)) x152000 x152001 x152002) else (none)) else (none)) else (if x7 < 56 then (some (0, 0, (⟨#[]⟩ : ByteArray), ([] : List (S24)), 0)) else (vinculumref03_Read.j3 k x0 x1 x7 x8 x152000 x152001 x152002))
def vinculumref03_Read.f : Nat → List Int → Int → Option (Int × Int × ByteArray × (List (S24)) × Int)
  | 0, _, _ => none
  | k + 1, l0, a1 => if (l0.length : Int) = 0 then (vinculumref03_Read.j0 k l0 a1 true) else (if a1 = 0 then (vinculumref03_Read.j0 k l0 a1 true) else (if 0 < (l0.length : Int) then (vinculumref03_Read.j0 k l0 a1 (decide ((rd l0 0) < 64))) else (none)))
end
theorem vinculumref03_Read.mono_l : ∀ k, (∀ y0 y1, LeO (vinculumref03_Read.f k y0 y1) (vinculumref03_Read.f (k + 1) y0 y1)) ∧ (∀ y0 y1 y2, LeO (vinculumref03_Read.j0 k y0 y1 y2) (vinculumref03_Read.j0 (k + 1) y0 y1 y2)) ∧ (∀ y0 y1 y2 y3 y4 y5 y6, LeO (vinculumref03_Read.j3 k y0 y1 y2 y3 y4 y5 y6) (vinculumref03_Read.j3 (k + 1) y0 y1 y2 y3 y4 y5 y6)) ∧ (∀ y0 y1 y2 y3 y4 y5 y6 y7 y8, LeO (vinculumref03_Read.l1 k y0 y1 y2 y3 y4 y5 y6 y7 y8) (vinculumref03_Read.l1 (k + 1) y0 y1 y2 y3 y4 y5 y6 y7 y8)) ∧ (∀ y0 y1 y2 y3 y4 y5 y6, LeO (vinculumref03_Read.j1 k y0 y1 y2 y3 y4 y5 y6) (vinculumref03_Read.j1 (k + 1) y0 y1 y2 y3 y4 y5 y6)) ∧ (∀ y0 y1 y2 y3 y4 y5 y6 y7 y8, LeO (vinculumref03_Read.l0 k y0 y1 y2 y3 y4 y5 y6 y7 y8) (vinculumref03_Read.l0 (k + 1) y0 y1 y2 y3 y4 y5 y6 y7 y8))
  | 0 => ⟨fun _ _ r h => by simp [vinculumref03_Read.f] at h, fun _ _ _ r h => by simp [vinculumref03_Read.j0] at h, fun _ _ _ _ _ _ _ r h => by simp [vinculumref03_Read.j3] at h, fun _ _ _ _ _ _ _ _ _ r h => by simp [vinculumref03_Read.l1] at h, fun _ _ _ _ _ _ _ r h => by simp [vinculumref03_Read.j1] at h, fun _ _ _ _ _ _ _ _ _ r h => by simp [vinculumref03_Read.l0] at h⟩
  | k + 1 => by
    obtain ⟨ih0, ih1, ih2, ih3, ih4, ih5⟩ := vinculumref03_Read.mono_l k
    refine ⟨?_, ?_, ?_, ?_, ?_, ?_⟩
    · intro y0 y1
      unfold vinculumref03_Read.f
      repeat' first
      | (with_reducible exact ih0 _ _)
      | (with_reducible exact ih1 _ _ _)
      | (with_reducible exact ih2 _ _ _ _ _ _ _)
      | (with_reducible exact ih3 _ _ _ _ _ _ _ _ _)
      | (with_reducible exact ih4 _ _ _ _ _ _ _)
      | (with_reducible exact ih5 _ _ _ _ _ _ _ _ _)
      | (with_reducible exact LeO.refl _)
      | (with_reducible exact LeO.none _)
      | (with_reducible refine LeO.ite ?_ ?_)
      | (with_reducible refine LeO.bind ?_ (fun _ => ?_))
      | exact ih0 _ _
      | exact ih1 _ _ _
      | exact ih2 _ _ _ _ _ _ _
      | exact ih3 _ _ _ _ _ _ _ _ _
      | exact ih4 _ _ _ _ _ _ _
      | exact ih5 _ _ _ _ _ _ _ _ _
      | exact LeO.none _
      | refine LeO.ite ?_ ?_
      | refine LeO.bind ?_ (fun _ => ?_)
    · intro y0 y1 y2
      unfold vinculumref03_Read.j0
      repeat' first
      | (with_reducible exact ih0 _ _)
      | (with_reducible exact ih1 _ _ _)
      | (with_reducible exact ih2 _ _ _ _ _ _ _)
      | (with_reducible exact ih3 _ _ _ _ _ _ _ _ _)
      | (with_reducible exact ih4 _ _ _ _ _ _ _)
      | (with_reducible exact ih5 _ _ _ _ _ _ _ _ _)
      | (with_reducible exact LeO.refl _)
      | (with_reducible exact LeO.none _)
      | (with_reducible refine LeO.ite ?_ ?_)
      | (with_reducible refine LeO.bind ?_ (fun _ => ?_))
      | exact ih0 _ _
      | exact ih1 _ _ _
      | exact ih2 _ _ _ _ _ _ _
      | exact ih3 _ _ _ _ _ _ _ _ _
      | exact ih4 _ _ _ _ _ _ _
      | exact ih5 _ _ _ _ _ _ _ _ _
      | exact LeO.none _
      | refine LeO.ite ?_ ?_
      | refine LeO.bind ?_ (fun _ => ?_)
    · intro y0 y1 y2 y3 y4 y5 y6
      unfold vinculumref03_Read.j3
      repeat' first
      | (with_reducible exact ih0 _ _)
      | (with_reducible exact ih1 _ _ _)
      | (with_reducible exact ih2 _ _ _ _ _ _ _)
      | (with_reducible exact ih3 _ _ _ _ _ _ _ _ _)
      | (with_reducible exact ih4 _ _ _ _ _ _ _)
      | (with_reducible exact ih5 _ _ _ _ _ _ _ _ _)
      | (with_reducible exact LeO.refl _)
      | (with_reducible exact LeO.none _)
      | (with_reducible refine LeO.ite ?_ ?_)
      | (with_reducible refine LeO.bind ?_ (fun _ => ?_))
      | exact ih0 _ _
      | exact ih1 _ _ _
      | exact ih2 _ _ _ _ _ _ _
      | exact ih3 _ _ _ _ _ _ _ _ _
      | exact ih4 _ _ _ _ _ _ _
      | exact ih5 _ _ _ _ _ _ _ _ _
      | exact LeO.none _
      | refine LeO.ite ?_ ?_
      | refine LeO.bind ?_ (fun _ => ?_)
    · intro y0 y1 y2 y3 y4 y5 y6 y7 y8
      unfold vinculumref03_Read.l1
      repeat' first
      | (with_reducible exact ih0 _ _)
      | (with_reducible exact ih1 _ _ _)
      | (with_reducible exact ih2 _ _ _ _ _ _ _)
      | (with_reducible exact ih3 _ _ _ _ _ _ _ _ _)
      | (with_reducible exact ih4 _ _ _ _ _ _ _)
      | (with_reducible exact ih5 _ _ _ _ _ _ _ _ _)
      | (with_reducible exact LeO.refl _)
      | (with_reducible exact LeO.none _)
      | (with_reducible refine LeO.ite ?_ ?_)
      | (with_reducible refine LeO.bind ?_ (fun _ => ?_))
      | exact ih0 _ _
      | exact ih1 _ _ _
      | exact ih2 _ _ _ _ _ _ _
      | exact ih3 _ _ _ _ _ _ _ _ _
      | exact ih4 _ _ _ _ _ _ _
      | exact ih5 _ _ _ _ _ _ _ _ _
      | exact LeO.none _
      | refine LeO.ite ?_ ?_
      | refine LeO.bind ?_ (fun _ => ?_)
    · intro y0 y1 y2 y3 y4 y5 y6
      unfold vinculumref03_Read.j1
      repeat' first
      | (with_reducible exact ih0 _ _)
      | (with_reducible exact ih1 _ _ _)
      | (with_reducible exact ih2 _ _ _ _ _ _ _)
      | (with_reducible exact ih3 _ _ _ _ _ _ _ _ _)
      | (with_reducible exact ih4 _ _ _ _ _ _ _)
      | (with_reducible exact ih5 _ _ _ _ _ _ _ _ _)
      | (with_reducible exact LeO.refl _)
      | (with_reducible exact LeO.none _)
      | (with_reducible refine LeO.ite ?_ ?_)
      | (with_reducible refine LeO.bind ?_ (fun _ => ?_))
      | exact ih0 _ _
      | exact ih1 _ _ _
      | exact ih2 _ _ _ _ _ _ _
      | exact ih3 _ _ _ _ _ _ _ _ _
      | exact ih4 _ _ _ _ _ _ _
      | exact ih5 _ _ _ _ _ _ _ _ _
      | exact LeO.none _
      | refine LeO.ite ?_ ?_
      | refine LeO.bind ?_ (fun _ => ?_)
    · intro y0 y1 y2 y3 y4 y5 y6 y7 y8
      unfold vinculumref03_Read.l0
      repeat' first
      | (with_reducible exact ih0 _ _)
      | (with_reducible exact ih1 _ _ _)
      | (with_reducible exact ih2 _ _ _ _ _ _ _)
      | (with_reducible exact ih3 _ _ _ _ _ _ _ _ _)
      | (with_reducible exact ih4 _ _ _ _ _ _ _)
      | (with_reducible exact ih5 _ _ _ _ _ _ _ _ _)
      | (with_reducible exact LeO.refl _)
      | (with_reducible exact LeO.none _)
      | (with_reducible refine LeO.ite ?_ ?_)
      | (with_reducible refine LeO.bind ?_ (fun _ => ?_))
      | exact ih0 _ _
      | exact ih1 _ _ _
      | exact ih2 _ _ _ _ _ _ _
      | exact ih3 _ _ _ _ _ _ _ _ _
      | exact ih4 _ _ _ _ _ _ _
      | exact ih5 _ _ _ _ _ _ _ _ _
      | exact LeO.none _
      | refine LeO.ite ?_ ?_
      | refine LeO.bind ?_ (fun _ => ?_)
theorem vinculumref03_Read.mono : ∀ a0 a1 k, LeO (vinculumref03_Read.f k a0 a1) (vinculumref03_Read.f (k + 1) a0 a1) := by
  intro a0 a1 k
  obtain ⟨ih0, ih1, ih2, ih3, ih4, ih5⟩ := vinculumref03_Read.mono_l k
  exact ih0 a0 a1
set_option maxHeartbeats 8000000 in
set_option maxRecDepth 100000 in
theorem vinculumref03_Read.calls (k : Nat) : ∀ (A0 : Option Addr) (c0 : Nat) (l0 : List Int) (a1 : Int) (r1 : Int) (r2 : Int) (r3 : ByteArray) (r4 : List (S24)) (r5 : Int) (w : World) (hr0 : Kd.C (Kd.int .u8) w A0 l0.length l0) (hc0 : l0.length ≤ c0) (h : vinculumref03_Read.f k l0 a1 = some (r1, r2, r3, r4, r5)),
    Calls Try.prog 27 #[.slice A0 l0.length c0, .int .i64 a1] w fun e w' => ∃ v3_ : Value, e = .returned (.tuple #[.agg #[.int .i64 r1, .int .i64 r2, .string r3, v3_], .int .i64 r5]) ∧ Kd.R k24 24 w' w.heap.size (fun _ => True) v3_ r4 ∧ Below w.heap.size w w' := by
  induction k using Nat.strongRecOn with
  | _ k ih =>
  intro A0 c0 l0 a1 r1 r2 r3 r4 r5 w hr0 hc0 h
  cases k with
  | zero => exact absurd h (by simp [vinculumref03_Read.f])
  | succ k =>
  simp only [vinculumref03_Read.f] at h
  have hu24 := Try.underlying24
  have HR0 := Aside0.mk hr0
  have HC0 := Aside0.mk hc0
  clear hr0 hc0
  have HB := Aside0.mk (Below.refl w.heap.size w)
  have H : (if (l0.length : Int) = 0 then (vinculumref03_Read.j0 k l0 a1 true) else (if a1 = 0 then (vinculumref03_Read.j0 k l0 a1 true) else (if 0 < (l0.length : Int) then (vinculumref03_Read.j0 k l0 a1 (decide ((rd l0 0) < 64))) else (none)))) = some (r1, r2, r3, r4, r5) := h
  clear h
  have HC3 := Aside0.mk H
  clear H
  go_enter Try.func27, Try.ntmps27
  go_upto_region 1 with (first | ((with_reducible refine gate_dst (N := 4) rfl ?_); refine box_event ?hg (N := 4) ?hd (cs := #[.int .i64 0, .int .i64 0, .string (⟨#[]⟩ : ByteArray), .slice none 0 0]) (t := 24) ?hr ?_; (case hd => rfl); (case hg => rfl); (case hr => first | (go_simp; done) | (go_simp; rfl)); intro gb148 hg w4 hbox hb; have n0_ := Aside0.mk (below_step (by repeat (first | (with_reducible first | exact HB.out | apply below_alloc | apply pw_below_drewN | apply below_drew1) | exact HB.out)) hb); have n1_ := Aside0.mk (hbox); have n2_ := Aside0.mk ((by rw [hg]; exact (below_size (by repeat (first | (with_reducible first | exact HB.out | apply below_alloc | apply pw_below_drewN | apply below_drew1) | exact HB.out))) : w.heap.size ≤ gb148)); have n3_ := Aside0.mk ((by rw [hg]; exact (below_size (by repeat (first | (with_reducible first | exact HB.out | apply below_alloc | apply pw_below_drewN | apply below_drew1) | exact HB.out))) : w.heap.size ≤ gb148)); clear HB; have HB := n0_; have BK148 := n1_; have GW148 := n2_; have GE148 := n3_; clear n0_ n1_ n2_ n3_; clear hb hbox hg))
  (try simp only [Act.put, List.setIfInBounds_toArray, List.set_cons_zero, List.set_cons_succ])
  go_cut [26] (fun v26 wc => ∃ (kq : Nat) (x26_2 : Bool), v26 = .bool x26_2 ∧ Aside0 (vinculumref03_Read.j0 kq l0 a1 x26_2 = some (r1, r2, r3, r4, r5)) ∧ Aside0 (kq ≤ k) ∧ Aside0 (wc.heap[gb148]? = some (.cells #[.int .i64 0, .int .i64 0, .string (⟨#[]⟩ : ByteArray), (.slice none 0 0)] 24 (0, 0))) ∧ Aside0 (Below w.heap.size w wc))
  case first =>
    have H := HC3.out
    clear HC3
    by_cases c5 : (l0.length : Int) = 0
    · rw [if_pos c5] at H
      have c5b0 : ((l0.length : Int) == 0) = true := beq_iff_eq.mpr c5
      have c5b1 : ((l0.length : Int) != 0) = false := bne_eq_false_iff_eq.mpr c5
      clear c5
      (first | rw [c5b0] | (simp only [i64_w, i32_w]; rw [c5b0]) | skip)
      have H' := Aside0.mk H
      clear H
      go_wp2
      go_meet
      case rel => exact ⟨_, (true), (by first | rfl | (simp; done) | (simp [*]; done) | (simp [ne_nil_bool]; done)), H', ⟨by first | omega | exact Nat.le_refl _⟩, ⟨by (with_reducible repeat (first | refine blk_drewN ?_ _ | refine blk_drew ?_ | refine blk_alloc ?_ _)); exact BK148.out⟩, ⟨by repeat (first | (with_reducible first | exact HB.out | apply below_alloc | apply pw_below_drewN | apply below_drew1 | refine below_set ?_ GE148.out) | exact HB.out)⟩⟩
    · rw [if_neg c5] at H
      have c5b0 : ((l0.length : Int) == 0) = false := beq_eq_false_iff_ne.mpr c5
      have c5b1 : ((l0.length : Int) != 0) = true := bne_iff_ne.mpr c5
      have c5b2 : ¬ (l0 = []) := fun h_ => c5 (by rw [h_]; rfl)
      (first | rw [c5b0] | (simp only [i64_w, i32_w]; rw [c5b0]) | skip)
      by_cases c6 : a1 = 0
      · rw [if_pos c6] at H
        have c6b0 : (a1 == 0) = true := beq_iff_eq.mpr c6
        have c6b1 : (a1 != 0) = false := bne_eq_false_iff_eq.mpr c6
        clear c6
        have H' := Aside0.mk H
        clear H
        go_wp2
        go_meet
        case rel => exact ⟨_, (true), (by first | rfl | (simp; done) | (simp [*]; done) | (simp [ne_nil_bool]; done)), H', ⟨by first | omega | exact Nat.le_refl _⟩, ⟨by (with_reducible repeat (first | refine blk_drewN ?_ _ | refine blk_drew ?_ | refine blk_alloc ?_ _)); exact BK148.out⟩, ⟨by repeat (first | (with_reducible first | exact HB.out | apply below_alloc | apply pw_below_drewN | apply below_drew1 | refine below_set ?_ GE148.out) | exact HB.out)⟩⟩
      · rw [if_neg c6] at H
        have c6b0 : (a1 == 0) = false := beq_eq_false_iff_ne.mpr c6
        have c6b1 : (a1 != 0) = true := bne_iff_ne.mpr c6
        by_cases c7 : 0 < (l0.length : Int)
        · rw [if_pos c7] at H
          have c7b0 : decide (0 < (l0.length : Int)) = true := decide_eq_true c7
          have c7b1 : decide (0 < l0.length) = true := decide_eq_true (by omega)
          clear c7
          have H' := Aside0.mk H
          clear H
          have p149 : 0 ≤ (0 : Int) := (by omega)
          have q149 : 0 < (l0.length : Int) := of_decide_eq_true (by first | (with_reducible assumption) | assumption)
          obtain ⟨ad149, e149, hx149_0⟩ := Kd.at_int HR0.out 0 p149 q149
          cases e149
          have qi149 : (0 < l0.length) = True := eq_true (by omega)
          (try rw [show ((0 : Int)).toNat = 0 from rfl] at hx149_0)
          (try rw [Addr.add_zero'] at hx149_0)
          replace hx149_0 := (HB.out.cell (World.block_lt_of_cell? w _ hx149_0)).trans hx149_0
          replace p149 := eq_true p149
          replace q149 := eq_true q149
          go_wp2
          go_meet
          case rel => exact ⟨_, (decide ((rd l0 0) < 64)), (by first | rfl | (simp; done) | (simp [*]; done) | (simp [ne_nil_bool]; done)), H', ⟨by first | omega | exact Nat.le_refl _⟩, ⟨by (with_reducible repeat (first | refine blk_drewN ?_ _ | refine blk_drew ?_ | refine blk_alloc ?_ _)); exact BK148.out⟩, ⟨by repeat (first | (with_reducible first | exact HB.out | apply below_alloc | apply pw_below_drewN | apply below_drew1 | refine below_set ?_ GE148.out) | exact HB.out)⟩⟩
        · rw [if_neg c7] at H
          exact absurd H (by simp)
  case rest =>
    clear HC3
    try clear p1
    try clear q1
    try clear hx1
    try clear qi1
    try clear c2
    try clear p2
    try clear c5
    try clear c5b0
    try clear c5b1
    try clear c5b2
    try clear c6
    try clear c6b0
    try clear c6b1
    try clear c7
    try clear c7b0
    try clear c7b1
    try clear hx149_0
    try clear p149
    try clear q149
    obtain ⟨kq, x26_2, rfl, HA, HJ2, BK148, HB⟩ := hcut
    cases kq with
    | zero => exact absurd HA.out (by simp [vinculumref03_Read.j0])
    | succ kj2 =>
      have H := HA.out
      clear HA
      simp only [vinculumref03_Read.j0] at H
      by_cases c8 : x26_2 = true
      · subst c8
        have H1 : (some (0, 0, (⟨#[]⟩ : ByteArray), ([] : List (S24)), 0)) = some (r1, r2, r3, r4, r5) := by rw [if_pos rfl] at H; exact H
        clear H
        have H := H1
        clear H1
        simp only [Option.some.injEq, Prod.mk.injEq] at H
        obtain ⟨rfl, rfl, rfl, rfl, rfl⟩ := H
        have hcz9_0 : wc.cell? ⟨gb148, 0, none⟩ = some (.int .i64 0) := (blk_cell BK148.out 0).trans rfl
        have hcz9_1 : wc.cell? ⟨gb148, 1, none⟩ = some (.int .i64 0) := (blk_cell BK148.out 1).trans rfl
        have hcz9_2 : wc.cell? ⟨gb148, 2, none⟩ = some (.string (⟨#[]⟩ : ByteArray)) := (blk_cell BK148.out 2).trans rfl
        have hcz9_3 : wc.cell? ⟨gb148, 3, none⟩ = some (.slice none 0 0) := (blk_cell BK148.out 3).trans rfl
        have hfz9_0 := blk_frozen BK148.out 0
        have hfz9_1 := blk_frozen BK148.out 1
        have hfz9_2 := blk_frozen BK148.out 2
        have hfz9_3 := blk_frozen BK148.out 3
        go_wp2
        refine bodyPost_ret (results_ct rfl _ _ gb148 24 #[.int .i64 0, .int .i64 0, .string (⟨#[]⟩ : ByteArray), .slice none 0 0] (0, 0) _ rfl (by (with_reducible repeat (first | refine blk_drewN ?_ _ | refine blk_drew ?_ | refine blk_alloc ?_ _)); refine blk_put (cs := #[.int .i64 0, .int .i64 0, .string (⟨#[]⟩ : ByteArray), .slice none 0 0]) ?_ 3 _ rfl; (with_reducible repeat (first | refine blk_drewN ?_ _ | refine blk_drew ?_ | refine blk_alloc ?_ _)); refine blk_put (cs := #[.int .i64 0, .int .i64 0, .string (⟨#[]⟩ : ByteArray), .slice none 0 0]) ?_ 2 _ rfl; (with_reducible repeat (first | refine blk_drewN ?_ _ | refine blk_drew ?_ | refine blk_alloc ?_ _)); refine blk_put (cs := #[.int .i64 0, .int .i64 0, .string (⟨#[]⟩ : ByteArray), .slice none 0 0]) ?_ 1 _ rfl; (with_reducible repeat (first | refine blk_drewN ?_ _ | refine blk_drew ?_ | refine blk_alloc ?_ _)); refine blk_put (cs := #[.int .i64 0, .int .i64 0, .string (⟨#[]⟩ : ByteArray), .slice none 0 0]) ?_ 0 _ rfl; (with_reducible repeat (first | refine blk_drewN ?_ _ | refine blk_drew ?_ | refine blk_alloc ?_ _)); exact BK148.out) Try.underlying24 rfl (by kernel_rfl)) rfl ?_
        exact ⟨_, by first | rfl | (simp [errW_none, errW_some] <;> rfl) | (simp [*, errW_none, errW_some] <;> rfl), by first | exact Kd.R_nil _ _ _ _ _ | exact Kd.N_nil _ _ _ _ _ | exact Kd.V_nil _ _ _ _ _ | exact Kd.Q_nil _ _ _ _ _ | exact Kd.S_nil _ _ _ _ _, by repeat (first | (with_reducible first | exact HB.out | apply below_alloc | apply pw_below_drewN | apply below_drew1 | refine below_set ?_ GE148.out) | exact HB.out)⟩
      · replace c8 := Bool.eq_false_iff.mpr c8
        subst c8
        have H1 : (if 0 < (l0.length : Int) then (if (IntKind.u64.wrap (Int.tmod (rd l0 0) 64)) ≥ 56 then (if (l0.length : Int) < (wrap64 (1 + (wrap64 ((wrap64 (IntKind.u64.wrap (Int.tmod (rd l0 0) 64))) - 55)))) then (vinculumref03_Read.j1 kj2 l0 a1 (wrap64 ((wrap64 (IntKind.u64.wrap (Int.tmod (rd l0 0) 64))) - 55)) true (wrap64 (Int.tdiv (wrap64 (rd l0 0)) 64)) 0 (⟨#[]⟩ : ByteArray)) else (if 1 < (l0.length : Int) then (vinculumref03_Read.j1 kj2 l0 a1 (wrap64 ((wrap64 (IntKind.u64.wrap (Int.tmod (rd l0 0) 64))) - 55)) ((rd l0 1) == 0) (wrap64 (Int.tdiv (wrap64 (rd l0 0)) 64)) 0 (⟨#[]⟩ : ByteArray)) else (none))) else (vinculumref03_Read.j3 kj2 l0 a1 (IntKind.u64.wrap (Int.tmod (rd l0 0) 64)) 1 (wrap64 (Int.tdiv (wrap64 (rd l0 0)) 64)) 0 (⟨#[]⟩ : ByteArray))) else (none)) = some (r1, r2, r3, r4, r5) := by rw [if_neg (show ¬ (false = true) by decide)] at H; exact H
        clear H
        have H := H1
        clear H1
        by_cases c10 : 0 < (l0.length : Int)
        · rw [if_pos c10] at H
          have c10b0 : decide (0 < (l0.length : Int)) = true := decide_eq_true c10
          have c10b1 : decide (0 < l0.length) = true := decide_eq_true (by omega)
          clear c10
          have HC11 := Aside0.mk H
          clear H
          have p150 : 0 ≤ (0 : Int) := (by omega)
          have q150 : 0 < (l0.length : Int) := of_decide_eq_true (by first | (with_reducible assumption) | assumption)
          obtain ⟨ad150, e150, hx150_0⟩ := Kd.at_int HR0.out 0 p150 q150
          cases e150
          have qi150 : (0 < l0.length) = True := eq_true (by omega)
          (try rw [show ((0 : Int)).toNat = 0 from rfl] at hx150_0)
          (try rw [Addr.add_zero'] at hx150_0)
          replace hx150_0 := (HB.out.cell (World.block_lt_of_cell? w _ hx150_0)).trans hx150_0
          replace p150 := eq_true p150
          replace q150 := eq_true q150
          go_upto_if 40 with (first | ((with_reducible refine gate_dst (N := 6) rfl ?_); refine box_event ?hg (N := 6) ?hd (cs := #[.int .i64 0, .int .i64 0, .string (⟨#[]⟩ : ByteArray), .slice none 0 0]) (t := 24) ?hr ?_; (case hd => rfl); (case hg => rfl); (case hr => first | (go_simp; done) | (go_simp; rfl)); intro gb151 hg w12 hbox hb; have n0_ := Aside0.mk (blk_below (g := gb148) (o := .cells #[.int .i64 0, .int .i64 0, .string (⟨#[]⟩ : ByteArray), .slice none 0 0] 24 (0, 0)) (by (with_reducible repeat (first | refine blk_drewN ?_ _ | refine blk_drew ?_ | refine blk_alloc ?_ _)); exact BK148.out) hb); have n1_ := Aside0.mk (below_step (by repeat (first | (with_reducible first | exact HB.out | apply below_alloc | apply pw_below_drewN | apply below_drew1 | refine below_set ?_ GE148.out) | exact HB.out)) hb); have n2_ := Aside0.mk (hbox); have n3_ := Aside0.mk ((by rw [hg]; exact (below_size (by repeat (first | (with_reducible first | exact HB.out | apply below_alloc | apply pw_below_drewN | apply below_drew1 | refine below_set ?_ GE148.out) | exact HB.out))) : w.heap.size ≤ gb151)); have n4_ := Aside0.mk ((by rw [hg]; exact (below_size (by repeat (first | (with_reducible first | exact HB.out | apply below_alloc | apply pw_below_drewN | apply below_drew1 | refine below_set ?_ GE148.out) | exact HB.out))) : w.heap.size ≤ gb151)); have n5_ := Aside0.mk ((by rw [hg]; exact Nat.ne_of_lt (blk_lt (g := gb148) (o := .cells #[.int .i64 0, .int .i64 0, .string (⟨#[]⟩ : ByteArray), .slice none 0 0] 24 (0, 0)) (by (with_reducible repeat (first | refine blk_drewN ?_ _ | refine blk_drew ?_ | refine blk_alloc ?_ _)); exact BK148.out)) : gb148 ≠ gb151)); have n6_ := Aside0.mk ((by rw [hg]; exact Nat.ne_of_gt (blk_lt (g := gb148) (o := .cells #[.int .i64 0, .int .i64 0, .string (⟨#[]⟩ : ByteArray), .slice none 0 0] 24 (0, 0)) (by (with_reducible repeat (first | refine blk_drewN ?_ _ | refine blk_drew ?_ | refine blk_alloc ?_ _)); exact BK148.out)) : gb151 ≠ gb148)); clear BK148; clear HB; have BK148 := n0_; have HB := n1_; have BK151 := n2_; have GW151 := n3_; have GE151 := n4_; have NB148_151 := n5_; have NB151_148 := n6_; clear n0_ n1_ n2_ n3_ n4_ n5_ n6_; clear hb hbox hg; have hnb13 := NB151_148.out; have hnc13 := NB148_151.out; have hcz14_0 : w12.cell? ⟨gb151, 0, none⟩ = some (.int .i64 0) := (blk_cell BK151.out 0).trans rfl; have hcz14_1 : w12.cell? ⟨gb151, 1, none⟩ = some (.int .i64 0) := (blk_cell BK151.out 1).trans rfl; have hcz14_2 : w12.cell? ⟨gb151, 2, none⟩ = some (.string (⟨#[]⟩ : ByteArray)) := (blk_cell BK151.out 2).trans rfl; have hcz14_3 : w12.cell? ⟨gb151, 3, none⟩ = some (.slice none 0 0) := (blk_cell BK151.out 3).trans rfl; have hfz14_0 := blk_frozen BK151.out 0; have hfz14_1 := blk_frozen BK151.out 1; have hfz14_2 := blk_frozen BK151.out 2; have hfz14_3 := blk_frozen BK151.out 3; have p152 : 0 ≤ (0 : Int) := (by omega); have q152 : 0 < (l0.length : Int) := of_decide_eq_true (by first | (with_reducible assumption) | assumption); obtain ⟨ad152, e152, hx152_0⟩ := Kd.at_int HR0.out 0 p152 q152; obtain rfl : ad150 = ad152 := (by injection e152); have qi152 : (0 < l0.length) = True := eq_true (by omega); (try rw [show ((0 : Int)).toNat = 0 from rfl] at hx152_0); (try rw [Addr.add_zero'] at hx152_0); have hn152_0 : ad150.block ≠ gb151 := Nat.ne_of_lt (Nat.lt_of_lt_of_le (by have := World.block_lt_of_cell? _ _ hx152_0; first | rwa [add_block] at this | exact this) GW151.out); have hn152_1 : ad150.block ≠ gb151 := Nat.ne_of_lt (Nat.lt_of_lt_of_le (by have := World.block_lt_of_cell? _ _ hx152_0; first | rwa [add_block] at this | exact this) GW151.out); have hn152_2 : ad150.block ≠ gb151 := Nat.ne_of_lt (Nat.lt_of_lt_of_le (by have := World.block_lt_of_cell? _ _ hx152_0; first | rwa [add_block] at this | exact this) GW151.out); have hn152_3 : ad150.block ≠ gb151 := Nat.ne_of_lt (Nat.lt_of_lt_of_le (by have := World.block_lt_of_cell? _ _ hx152_0; first | rwa [add_block] at this | exact this) GW151.out); replace hx152_0 := (HB.out.cell (World.block_lt_of_cell? w _ hx152_0)).trans hx152_0; replace hx152_0 := (cell_far (p := ⟨gb151, 0, none⟩) (by first | (rw [add_block]; exact hn152_0) | (show (Addr.add _ _).block ≠ _; rw [add_block]; exact hn152_0) | exact hn152_0) (.int .i64 (wrap64 (Int.tdiv (wrap64 (rd l0 0)) 64)))).trans hx152_0; replace hx152_0 := (cell_far (p := ⟨gb151, 1, none⟩) (by first | (rw [add_block]; exact hn152_1) | (show (Addr.add _ _).block ≠ _; rw [add_block]; exact hn152_1) | exact hn152_1) (.int .i64 0)).trans hx152_0; replace hx152_0 := (cell_far (p := ⟨gb151, 2, none⟩) (by first | (rw [add_block]; exact hn152_2) | (show (Addr.add _ _).block ≠ _; rw [add_block]; exact hn152_2) | exact hn152_2) (.string (⟨#[]⟩ : ByteArray))).trans hx152_0; replace hx152_0 := (cell_far (p := ⟨gb151, 3, none⟩) (by first | (rw [add_block]; exact hn152_3) | (show (Addr.add _ _).block ≠ _; rw [add_block]; exact hn152_3) | exact hn152_3) (.slice none 0 0)).trans hx152_0; clear hn152_0; clear hn152_1; clear hn152_2; clear hn152_3; replace p152 := eq_true p152; replace q152 := eq_true q152))
          (try simp only [Act.put, List.setIfInBounds_toArray, List.set_cons_zero, List.set_cons_succ])
          go_cut [7, 8] (fun v7 v8 wc => ∃ (kq : Nat) (x7_10 : Int) (x8_10 : Int) (x149000_10 : Int) (x149001_10 : Int) (x149002_10 : ByteArray), v7 = .int .u64 x7_10 ∧ v8 = .int .i64 x8_10 ∧ Aside0 (vinculumref03_Read.j3 kq l0 a1 x7_10 x8_10 (wrap64 (Int.tdiv (wrap64 (rd l0 0)) 64)) 0 (⟨#[]⟩ : ByteArray) = some (r1, r2, r3, r4, r5)) ∧ Aside0 (kq ≤ kj2) ∧ Aside0 (wc.heap[gb148]? = some (.cells #[.int .i64 x149000_10, .int .i64 x149001_10, .string x149002_10, (.slice none 0 0)] 24 (0, 0))) ∧ Aside0 (wc.heap[gb151]? = some (.cells #[.int .i64 (wrap64 (Int.tdiv (wrap64 (rd l0 0)) 64)), .int .i64 0, .string (⟨#[]⟩ : ByteArray), (.slice none 0 0)] 24 (0, 0))) ∧ Aside0 (Below w.heap.size w wc))
          case first =>
            have H := HC11.out
            clear HC11
            by_cases c15 : (IntKind.u64.wrap (Int.tmod (rd l0 0) 64)) ≥ 56
            · rw [if_pos c15] at H
              have c15b0 : decide (56 ≤ (IntKind.u64.wrap (Int.tmod (rd l0 0) 64))) = true := decide_eq_true c15
              clear c15
              (first | rw [c15b0] | (simp only [i64_w, i32_w]; rw [c15b0]) | skip)
              have HC16 := Aside0.mk H
              clear H
              go_upto_region 7 with (fail)
              go_cut [54] (fun v54 wc => ∃ (kq : Nat) (x54_15 : Bool), v54 = .bool x54_15 ∧ Aside0 (vinculumref03_Read.j1 kq l0 a1 (wrap64 ((wrap64 (IntKind.u64.wrap (Int.tmod (rd l0 0) 64))) - 55)) x54_15 (wrap64 (Int.tdiv (wrap64 (rd l0 0)) 64)) 0 (⟨#[]⟩ : ByteArray) = some (r1, r2, r3, r4, r5)) ∧ Aside0 (kq ≤ kj2) ∧ Aside0 (wc.heap[gb148]? = some (.cells #[.int .i64 0, .int .i64 0, .string (⟨#[]⟩ : ByteArray), (.slice none 0 0)] 24 (0, 0))) ∧ Aside0 (wc.heap[gb151]? = some (.cells #[.int .i64 (wrap64 (Int.tdiv (wrap64 (rd l0 0)) 64)), .int .i64 0, .string (⟨#[]⟩ : ByteArray), (.slice none 0 0)] 24 (0, 0))) ∧ Aside0 (Below w.heap.size w wc))
              case first =>
                have H := HC16.out
                clear HC16
                by_cases c17 : (l0.length : Int) < (wrap64 (1 + (wrap64 ((wrap64 (IntKind.u64.wrap (Int.tmod (rd l0 0) 64))) - 55))))
                · rw [if_pos c17] at H
                  have c17b0 : decide ((l0.length : Int) < (wrap64 (1 + (wrap64 ((wrap64 (IntKind.u64.wrap (Int.tmod (rd l0 0) 64))) - 55))))) = true := decide_eq_true c17
                  clear c17
                  (first | rw [c17b0] | (simp only [i64_w, i32_w]; rw [c17b0]) | skip)
                  have H' := Aside0.mk H
                  clear H
                  go_wp2
                  go_meet
                  case rel => exact ⟨_, (true), (by first | rfl | (simp; done) | (simp [*]; done) | (simp [ne_nil_bool]; done)), H', ⟨by have := HJ2.out; first | omega | exact Nat.le_refl _⟩, ⟨by (with_reducible repeat (first | refine blk_drewN ?_ _ | refine blk_drew ?_ | refine blk_alloc ?_ _)); refine blk_far ?_ NB148_151.out _; (with_reducible repeat (first | refine blk_drewN ?_ _ | refine blk_drew ?_ | refine blk_alloc ?_ _)); refine blk_far ?_ NB148_151.out _; (with_reducible repeat (first | refine blk_drewN ?_ _ | refine blk_drew ?_ | refine blk_alloc ?_ _)); refine blk_far ?_ NB148_151.out _; (with_reducible repeat (first | refine blk_drewN ?_ _ | refine blk_drew ?_ | refine blk_alloc ?_ _)); refine blk_far ?_ NB148_151.out _; (with_reducible repeat (first | refine blk_drewN ?_ _ | refine blk_drew ?_ | refine blk_alloc ?_ _)); exact BK148.out⟩, ⟨by (with_reducible repeat (first | refine blk_drewN ?_ _ | refine blk_drew ?_ | refine blk_alloc ?_ _)); refine blk_put (cs := #[.int .i64 (wrap64 (Int.tdiv (wrap64 (rd l0 0)) 64)), .int .i64 0, .string (⟨#[]⟩ : ByteArray), .slice none 0 0]) ?_ 3 _ rfl; (with_reducible repeat (first | refine blk_drewN ?_ _ | refine blk_drew ?_ | refine blk_alloc ?_ _)); refine blk_put (cs := #[.int .i64 (wrap64 (Int.tdiv (wrap64 (rd l0 0)) 64)), .int .i64 0, .string (⟨#[]⟩ : ByteArray), .slice none 0 0]) ?_ 2 _ rfl; (with_reducible repeat (first | refine blk_drewN ?_ _ | refine blk_drew ?_ | refine blk_alloc ?_ _)); refine blk_put (cs := #[.int .i64 (wrap64 (Int.tdiv (wrap64 (rd l0 0)) 64)), .int .i64 0, .string (⟨#[]⟩ : ByteArray), .slice none 0 0]) ?_ 1 _ rfl; (with_reducible repeat (first | refine blk_drewN ?_ _ | refine blk_drew ?_ | refine blk_alloc ?_ _)); refine blk_put (cs := #[.int .i64 0, .int .i64 0, .string (⟨#[]⟩ : ByteArray), .slice none 0 0]) ?_ 0 _ rfl; (with_reducible repeat (first | refine blk_drewN ?_ _ | refine blk_drew ?_ | refine blk_alloc ?_ _)); exact BK151.out⟩, ⟨by repeat (first | (with_reducible first | exact HB.out | apply below_alloc | apply pw_below_drewN | apply below_drew1 | refine below_set ?_ GE148.out | refine below_set ?_ GE151.out) | exact HB.out)⟩⟩
                · rw [if_neg c17] at H
                  have c17b0 : decide ((l0.length : Int) < (wrap64 (1 + (wrap64 ((wrap64 (IntKind.u64.wrap (Int.tmod (rd l0 0) 64))) - 55))))) = false := decide_eq_false c17
                  clear c17
                  (first | rw [c17b0] | (simp only [i64_w, i32_w]; rw [c17b0]) | skip)
                  by_cases c18 : 1 < (l0.length : Int)
                  · rw [if_pos c18] at H
                    have c18b0 : decide (1 < (l0.length : Int)) = true := decide_eq_true c18
                    have c18b1 : decide (1 < l0.length) = true := decide_eq_true (by omega)
                    clear c18
                    have H' := Aside0.mk H
                    clear H
                    have p153 : 0 ≤ (1 : Int) := (by omega)
                    have q153 : 1 < (l0.length : Int) := of_decide_eq_true (by first | (with_reducible assumption) | assumption)
                    obtain ⟨ad153, e153, hx153_0⟩ := Kd.at_int HR0.out 1 p153 q153
                    obtain rfl : ad150 = ad153 := (by injection e153)
                    (try simp only [show (1 : Int).toNat = 1 from rfl, Nat.reduceMul, Nat.reduceEqDiff, Go.Addr.add, ↓reduceIte] at hx153_0)
                    have qi153 : (1 < l0.length) = True := eq_true (by omega)
                    (try rw [show ((1 : Int)).toNat = 1 from rfl] at hx153_0)
                    have hn153_0 : ad150.block ≠ gb151 := Nat.ne_of_lt (Nat.lt_of_lt_of_le (by have := World.block_lt_of_cell? _ _ hx153_0; first | rwa [add_block] at this | exact this) GW151.out)
                    have hn153_1 : ad150.block ≠ gb151 := Nat.ne_of_lt (Nat.lt_of_lt_of_le (by have := World.block_lt_of_cell? _ _ hx153_0; first | rwa [add_block] at this | exact this) GW151.out)
                    have hn153_2 : ad150.block ≠ gb151 := Nat.ne_of_lt (Nat.lt_of_lt_of_le (by have := World.block_lt_of_cell? _ _ hx153_0; first | rwa [add_block] at this | exact this) GW151.out)
                    have hn153_3 : ad150.block ≠ gb151 := Nat.ne_of_lt (Nat.lt_of_lt_of_le (by have := World.block_lt_of_cell? _ _ hx153_0; first | rwa [add_block] at this | exact this) GW151.out)
                    replace hx153_0 := (HB.out.cell (World.block_lt_of_cell? w _ hx153_0)).trans hx153_0
                    replace hx153_0 := (cell_far (p := ⟨gb151, 0, none⟩) (by first | (rw [add_block]; exact hn153_0) | (show (Addr.add _ _).block ≠ _; rw [add_block]; exact hn153_0) | exact hn153_0) (.int .i64 (wrap64 (Int.tdiv (wrap64 (rd l0 0)) 64)))).trans hx153_0
                    replace hx153_0 := (cell_far (p := ⟨gb151, 1, none⟩) (by first | (rw [add_block]; exact hn153_1) | (show (Addr.add _ _).block ≠ _; rw [add_block]; exact hn153_1) | exact hn153_1) (.int .i64 0)).trans hx153_0
                    replace hx153_0 := (cell_far (p := ⟨gb151, 2, none⟩) (by first | (rw [add_block]; exact hn153_2) | (show (Addr.add _ _).block ≠ _; rw [add_block]; exact hn153_2) | exact hn153_2) (.string (⟨#[]⟩ : ByteArray))).trans hx153_0
                    replace hx153_0 := (cell_far (p := ⟨gb151, 3, none⟩) (by first | (rw [add_block]; exact hn153_3) | (show (Addr.add _ _).block ≠ _; rw [add_block]; exact hn153_3) | exact hn153_3) (.slice none 0 0)).trans hx153_0
                    clear hn153_0
                    clear hn153_1
                    clear hn153_2
                    clear hn153_3
                    replace p153 := eq_true p153
                    replace q153 := eq_true q153
                    go_wp2
                    go_meet
                    case rel => exact ⟨_, (((rd l0 1) == 0)), (by first | rfl | (simp; done) | (simp [*]; done) | (simp [ne_nil_bool]; done)), H', ⟨by have := HJ2.out; first | omega | exact Nat.le_refl _⟩, ⟨by (with_reducible repeat (first | refine blk_drewN ?_ _ | refine blk_drew ?_ | refine blk_alloc ?_ _)); refine blk_far ?_ NB148_151.out _; (with_reducible repeat (first | refine blk_drewN ?_ _ | refine blk_drew ?_ | refine blk_alloc ?_ _)); refine blk_far ?_ NB148_151.out _; (with_reducible repeat (first | refine blk_drewN ?_ _ | refine blk_drew ?_ | refine blk_alloc ?_ _)); refine blk_far ?_ NB148_151.out _; (with_reducible repeat (first | refine blk_drewN ?_ _ | refine blk_drew ?_ | refine blk_alloc ?_ _)); refine blk_far ?_ NB148_151.out _; (with_reducible repeat (first | refine blk_drewN ?_ _ | refine blk_drew ?_ | refine blk_alloc ?_ _)); exact BK148.out⟩, ⟨by (with_reducible repeat (first | refine blk_drewN ?_ _ | refine blk_drew ?_ | refine blk_alloc ?_ _)); refine blk_put (cs := #[.int .i64 (wrap64 (Int.tdiv (wrap64 (rd l0 0)) 64)), .int .i64 0, .string (⟨#[]⟩ : ByteArray), .slice none 0 0]) ?_ 3 _ rfl; (with_reducible repeat (first | refine blk_drewN ?_ _ | refine blk_drew ?_ | refine blk_alloc ?_ _)); refine blk_put (cs := #[.int .i64 (wrap64 (Int.tdiv (wrap64 (rd l0 0)) 64)), .int .i64 0, .string (⟨#[]⟩ : ByteArray), .slice none 0 0]) ?_ 2 _ rfl; (with_reducible repeat (first | refine blk_drewN ?_ _ | refine blk_drew ?_ | refine blk_alloc ?_ _)); refine blk_put (cs := #[.int .i64 (wrap64 (Int.tdiv (wrap64 (rd l0 0)) 64)), .int .i64 0, .string (⟨#[]⟩ : ByteArray), .slice none 0 0]) ?_ 1 _ rfl; (with_reducible repeat (first | refine blk_drewN ?_ _ | refine blk_drew ?_ | refine blk_alloc ?_ _)); refine blk_put (cs := #[.int .i64 0, .int .i64 0, .string (⟨#[]⟩ : ByteArray), .slice none 0 0]) ?_ 0 _ rfl; (with_reducible repeat (first | refine blk_drewN ?_ _ | refine blk_drew ?_ | refine blk_alloc ?_ _)); exact BK151.out⟩, ⟨by repeat (first | (with_reducible first | exact HB.out | apply below_alloc | apply pw_below_drewN | apply below_drew1 | refine below_set ?_ GE148.out | refine below_set ?_ GE151.out) | exact HB.out)⟩⟩
                  · rw [if_neg c18] at H
                    exact absurd H (by simp)
              case rest =>
                clear HC16
                try clear c1
                try clear p1
                try clear q1
                try clear hx1
                try clear qi1
                try clear c2
                try clear p2
                try clear c5
                try clear c5b0
                try clear c5b1
                try clear c5b2
                try clear c6
                try clear c6b0
                try clear c6b1
                try clear p6
                try clear c7
                try clear c7b0
                try clear c7b1
                try clear c8
                try clear c10
                try clear c10b0
                try clear c10b1
                try clear c13
                try clear p14
                try clear q14
                try clear hx14
                try clear qi14
                try clear c15
                try clear c15b0
                try clear p15
                try clear q15
                try clear hx15
                try clear qi15
                try clear c17
                try clear c17b0
                try clear c18
                try clear c18b0
                try clear c18b1
                try clear hcz14_0
                try clear hcz14_1
                try clear hcz14_2
                try clear hcz14_3
                try clear hcz9_0
                try clear hcz9_1
                try clear hcz9_2
                try clear hcz9_3
                try clear hfz14_0
                try clear hfz14_1
                try clear hfz14_2
                try clear hfz14_3
                try clear hfz9_0
                try clear hfz9_1
                try clear hfz9_2
                try clear hfz9_3
                try clear hx149_0
                try clear hx150_0
                try clear hx152_0
                try clear hx153_0
                try clear p1
                try clear p149
                try clear p150
                try clear p152
                try clear p153
                try clear p2
                try clear q1
                try clear q149
                try clear q150
                try clear q152
                try clear q153
                obtain ⟨kq, x54_15, rfl, HA, HJ15, BK148, BK151, HB⟩ := hcut
                cases kq with
                | zero => exact absurd HA.out (by simp [vinculumref03_Read.j1])
                | succ kj15 =>
                  have H := HA.out
                  clear HA
                  simp only [vinculumref03_Read.j1] at H
                  by_cases c19 : x54_15 = true
                  · subst c19
                    have H1 : (some (0, 0, (⟨#[]⟩ : ByteArray), ([] : List (S24)), 0)) = some (r1, r2, r3, r4, r5) := by rw [if_pos rfl] at H; exact H
                    clear H
                    have H := H1
                    clear H1
                    simp only [Option.some.injEq, Prod.mk.injEq] at H
                    obtain ⟨rfl, rfl, rfl, rfl, rfl⟩ := H
                    have hnb20 := NB148_151.out
                    have hnc20 := NB151_148.out
                    have hcz21_0 : wc.cell? ⟨gb148, 0, none⟩ = some (.int .i64 0) := (blk_cell BK148.out 0).trans rfl
                    have hcz21_1 : wc.cell? ⟨gb148, 1, none⟩ = some (.int .i64 0) := (blk_cell BK148.out 1).trans rfl
                    have hcz21_2 : wc.cell? ⟨gb148, 2, none⟩ = some (.string (⟨#[]⟩ : ByteArray)) := (blk_cell BK148.out 2).trans rfl
                    have hcz21_3 : wc.cell? ⟨gb148, 3, none⟩ = some (.slice none 0 0) := (blk_cell BK148.out 3).trans rfl
                    have hfz21_0 := blk_frozen BK148.out 0
                    have hfz21_1 := blk_frozen BK148.out 1
                    have hfz21_2 := blk_frozen BK148.out 2
                    have hfz21_3 := blk_frozen BK148.out 3
                    go_wp2
                    refine bodyPost_ret (results_ct rfl _ _ gb148 24 #[.int .i64 0, .int .i64 0, .string (⟨#[]⟩ : ByteArray), .slice none 0 0] (0, 0) _ rfl (by (with_reducible repeat (first | refine blk_drewN ?_ _ | refine blk_drew ?_ | refine blk_alloc ?_ _)); refine blk_put (cs := #[.int .i64 0, .int .i64 0, .string (⟨#[]⟩ : ByteArray), .slice none 0 0]) ?_ 3 _ rfl; (with_reducible repeat (first | refine blk_drewN ?_ _ | refine blk_drew ?_ | refine blk_alloc ?_ _)); refine blk_put (cs := #[.int .i64 0, .int .i64 0, .string (⟨#[]⟩ : ByteArray), .slice none 0 0]) ?_ 2 _ rfl; (with_reducible repeat (first | refine blk_drewN ?_ _ | refine blk_drew ?_ | refine blk_alloc ?_ _)); refine blk_put (cs := #[.int .i64 0, .int .i64 0, .string (⟨#[]⟩ : ByteArray), .slice none 0 0]) ?_ 1 _ rfl; (with_reducible repeat (first | refine blk_drewN ?_ _ | refine blk_drew ?_ | refine blk_alloc ?_ _)); refine blk_put (cs := #[.int .i64 0, .int .i64 0, .string (⟨#[]⟩ : ByteArray), .slice none 0 0]) ?_ 0 _ rfl; (with_reducible repeat (first | refine blk_drewN ?_ _ | refine blk_drew ?_ | refine blk_alloc ?_ _)); exact BK148.out) Try.underlying24 rfl (by kernel_rfl)) rfl ?_
                    exact ⟨_, by first | rfl | (simp [errW_none, errW_some] <;> rfl) | (simp [*, errW_none, errW_some] <;> rfl), by first | exact Kd.R_nil _ _ _ _ _ | exact Kd.N_nil _ _ _ _ _ | exact Kd.V_nil _ _ _ _ _ | exact Kd.Q_nil _ _ _ _ _ | exact Kd.S_nil _ _ _ _ _, by repeat (first | (with_reducible first | exact HB.out | apply below_alloc | apply pw_below_drewN | apply below_drew1 | refine below_set ?_ GE148.out | refine below_set ?_ GE151.out) | exact HB.out)⟩
                  · replace c19 := Bool.eq_false_iff.mpr c19
                    subst c19
                    have H1 : (vinculumref03_Read.l0 kj15 l0 a1 0 (wrap64 (1 + (wrap64 ((wrap64 (IntKind.u64.wrap (Int.tmod (rd l0 0) 64))) - 55)))) (wrap64 ((wrap64 (IntKind.u64.wrap (Int.tmod (rd l0 0) 64))) - 55)) 1 (wrap64 (Int.tdiv (wrap64 (rd l0 0)) 64)) 0 (⟨#[]⟩ : ByteArray)) = some (r1, r2, r3, r4, r5) := by rw [if_neg (show ¬ (false = true) by decide)] at H; exact H
                    clear H
                    have H := H1
                    clear H1
                    have H' := Aside0.mk H
                    clear H
                    go_wp2
                    go_loopg [7, 10] kj15 (fun kq v7 v10 w' => ∃ (x7_3 : Int) (x10_3 : Int), v7 = .int .u64 x7_3 ∧ v10 = .int .i64 x10_3 ∧ Aside0 (vinculumref03_Read.l0 kq l0 a1 x7_3 (wrap64 (1 + (wrap64 ((wrap64 (IntKind.u64.wrap (Int.tmod (rd l0 0) 64))) - 55)))) (wrap64 ((wrap64 (IntKind.u64.wrap (Int.tmod (rd l0 0) 64))) - 55)) x10_3 (wrap64 (Int.tdiv (wrap64 (rd l0 0)) 64)) 0 (⟨#[]⟩ : ByteArray) = some (r1, r2, r3, r4, r5)) ∧ Aside0 (kq ≤ kj15) ∧ Aside0 (w'.heap[gb148]? = some (.cells #[.int .i64 0, .int .i64 0, .string (⟨#[]⟩ : ByteArray), (.slice none 0 0)] 24 (0, 0))) ∧ Aside0 (w'.heap[gb151]? = some (.cells #[.int .i64 (wrap64 (Int.tdiv (wrap64 (rd l0 0)) 64)), .int .i64 0, .string (⟨#[]⟩ : ByteArray), (.slice none 0 0)] 24 (0, 0))) ∧ Aside0 (Below w.heap.size w w'))
                    case atStart => exact ⟨(0), (1), (by first | rfl | (simp; done) | (simp [*]; done) | (simp [ne_nil_bool]; done)), (by first | rfl | (simp; done) | (simp [*]; done) | (simp [ne_nil_bool]; done)), H', ⟨Nat.le_refl _⟩, ⟨by (with_reducible repeat (first | refine blk_drewN ?_ _ | refine blk_drew ?_ | refine blk_alloc ?_ _)); exact BK148.out⟩, ⟨by (with_reducible repeat (first | refine blk_drewN ?_ _ | refine blk_drew ?_ | refine blk_alloc ?_ _)); exact BK151.out⟩, ⟨by repeat (first | (with_reducible first | exact HB.out | apply below_alloc | apply pw_below_drewN | apply below_drew1 | refine below_set ?_ GE148.out | refine below_set ?_ GE151.out) | exact HB.out)⟩⟩
                    case round =>
                      clear H'
                      try clear c1
                      try clear p1
                      try clear q1
                      try clear hx1
                      try clear qi1
                      try clear c2
                      try clear p2
                      try clear c5
                      try clear c5b0
                      try clear c5b1
                      try clear c5b2
                      try clear c6
                      try clear c6b0
                      try clear c6b1
                      try clear p6
                      try clear c7
                      try clear c7b0
                      try clear c7b1
                      try clear c8
                      try clear c10
                      try clear c10b0
                      try clear c10b1
                      try clear c13
                      try clear p14
                      try clear q14
                      try clear hx14
                      try clear qi14
                      try clear c15
                      try clear c15b0
                      try clear p15
                      try clear q15
                      try clear hx15
                      try clear qi15
                      try clear c17
                      try clear c17b0
                      try clear c18
                      try clear c18b0
                      try clear c18b1
                      try clear c19
                      try clear c20
                      try clear hcz14_0
                      try clear hcz14_1
                      try clear hcz14_2
                      try clear hcz14_3
                      try clear hcz21_0
                      try clear hcz21_1
                      try clear hcz21_2
                      try clear hcz21_3
                      try clear hcz9_0
                      try clear hcz9_1
                      try clear hcz9_2
                      try clear hcz9_3
                      try clear hfz14_0
                      try clear hfz14_1
                      try clear hfz14_2
                      try clear hfz14_3
                      try clear hfz21_0
                      try clear hfz21_1
                      try clear hfz21_2
                      try clear hfz21_3
                      try clear hfz9_0
                      try clear hfz9_1
                      try clear hfz9_2
                      try clear hfz9_3
                      try clear hx149_0
                      try clear hx150_0
                      try clear hx152_0
                      try clear hx153_0
                      try clear p1
                      try clear p14
                      try clear p149
                      try clear p15
                      try clear p150
                      try clear p152
                      try clear p153
                      try clear p2
                      try clear p6
                      try clear q1
                      try clear q14
                      try clear q149
                      try clear q15
                      try clear q150
                      try clear q152
                      try clear q153
                      obtain ⟨x7_3, x10_3, rfl, rfl, HA, HK3, BK148, BK151, HB⟩ := hrel
                      cases gk with
                      | zero => exact absurd HA.out (by simp [vinculumref03_Read.l0])
                      | succ k3 =>
                        have H := HA.out
                        clear HA
                        simp only [vinculumref03_Read.l0] at H
                        by_cases c22 : x10_3 ≤ (wrap64 ((wrap64 (IntKind.u64.wrap (Int.tmod (rd l0 0) 64))) - 55))
                        · rw [if_pos c22] at H
                          have c22b0 : decide (x10_3 ≤ (wrap64 ((wrap64 (IntKind.u64.wrap (Int.tmod (rd l0 0) 64))) - 55))) = true := decide_eq_true c22
                          clear c22
                          by_cases c23 : 0 ≤ x10_3
                          · rw [if_pos c23] at H
                            have c23b0 : decide (0 ≤ x10_3) = true := decide_eq_true c23
                            clear c23
                            by_cases c24 : x10_3 < (l0.length : Int)
                            · rw [if_pos c24] at H
                              have c24b0 : decide (x10_3 < (l0.length : Int)) = true := decide_eq_true c24
                              clear c24
                              have H' := Aside0.mk H
                              clear H
                              have p154 : 0 ≤ (x10_3 : Int) := of_decide_eq_true (by first | (with_reducible assumption) | assumption)
                              have q154 : x10_3 < (l0.length : Int) := of_decide_eq_true (by first | (with_reducible assumption) | assumption)
                              obtain ⟨ad154, e154, hx154_0⟩ := Kd.at_int HR0.out x10_3 p154 q154
                              obtain rfl : ad150 = ad154 := (by injection e154)
                              replace hx154_0 := (HB.out.cell (World.block_lt_of_cell? w _ hx154_0)).trans hx154_0
                              replace p154 := eq_true p154
                              replace q154 := eq_true q154
                              go_wp2
                              go_roundg k3
                              case measure => have := HJ2.out; have := HJ15.out; have := HK3.out; omega
                              case rel => exact ⟨(IntKind.u64.wrap ((IntKind.u64.wrap (256 * x7_3)) + (IntKind.u64.wrap (rd l0 x10_3)))), (wrap64 (x10_3 + 1)), (by first | rfl | (simp; done) | (simp [*]; done) | (simp [ne_nil_bool]; done)), (by first | rfl | (simp; done) | (simp [*]; done) | (simp [ne_nil_bool]; done)), H', ⟨by have := HJ2.out; have := HJ15.out; have := HK3.out; omega⟩, ⟨by (with_reducible repeat (first | refine blk_drewN ?_ _ | refine blk_drew ?_ | refine blk_alloc ?_ _)); exact BK148.out⟩, ⟨by (with_reducible repeat (first | refine blk_drewN ?_ _ | refine blk_drew ?_ | refine blk_alloc ?_ _)); exact BK151.out⟩, ⟨by repeat (first | (with_reducible first | exact HB.out | apply below_alloc | apply pw_below_drewN | apply below_drew1 | refine below_set ?_ GE148.out | refine below_set ?_ GE151.out) | exact HB.out)⟩⟩
                            · rw [if_neg c24] at H
                              exact absurd H (by simp)
                          · rw [if_neg c23] at H
                            exact absurd H (by simp)
                        · rw [if_neg c22] at H
                          have c22b0 : decide (x10_3 ≤ (wrap64 ((wrap64 (IntKind.u64.wrap (Int.tmod (rd l0 0) 64))) - 55))) = false := decide_eq_false c22
                          clear c22
                          by_cases c25 : x7_3 < 56
                          · rw [if_pos c25] at H
                            have c25b0 : decide (x7_3 < 56) = true := decide_eq_true c25
                            clear c25
                            simp only [Option.some.injEq, Prod.mk.injEq] at H
                            obtain ⟨rfl, rfl, rfl, rfl, rfl⟩ := H
                            have hnb26 := NB148_151.out
                            have hnc26 := NB151_148.out
                            have hcz27_0 : wr.cell? ⟨gb148, 0, none⟩ = some (.int .i64 0) := (blk_cell BK148.out 0).trans rfl
                            have hcz27_1 : wr.cell? ⟨gb148, 1, none⟩ = some (.int .i64 0) := (blk_cell BK148.out 1).trans rfl
                            have hcz27_2 : wr.cell? ⟨gb148, 2, none⟩ = some (.string (⟨#[]⟩ : ByteArray)) := (blk_cell BK148.out 2).trans rfl
                            have hcz27_3 : wr.cell? ⟨gb148, 3, none⟩ = some (.slice none 0 0) := (blk_cell BK148.out 3).trans rfl
                            have hfz27_0 := blk_frozen BK148.out 0
                            have hfz27_1 := blk_frozen BK148.out 1
                            have hfz27_2 := blk_frozen BK148.out 2
                            have hfz27_3 := blk_frozen BK148.out 3
                            go_wp2
                            refine bodyPost_ret (results_ct rfl _ _ gb148 24 #[.int .i64 0, .int .i64 0, .string (⟨#[]⟩ : ByteArray), .slice none 0 0] (0, 0) _ rfl (by (with_reducible repeat (first | refine blk_drewN ?_ _ | refine blk_drew ?_ | refine blk_alloc ?_ _)); refine blk_put (cs := #[.int .i64 0, .int .i64 0, .string (⟨#[]⟩ : ByteArray), .slice none 0 0]) ?_ 3 _ rfl; (with_reducible repeat (first | refine blk_drewN ?_ _ | refine blk_drew ?_ | refine blk_alloc ?_ _)); refine blk_put (cs := #[.int .i64 0, .int .i64 0, .string (⟨#[]⟩ : ByteArray), .slice none 0 0]) ?_ 2 _ rfl; (with_reducible repeat (first | refine blk_drewN ?_ _ | refine blk_drew ?_ | refine blk_alloc ?_ _)); refine blk_put (cs := #[.int .i64 0, .int .i64 0, .string (⟨#[]⟩ : ByteArray), .slice none 0 0]) ?_ 1 _ rfl; (with_reducible repeat (first | refine blk_drewN ?_ _ | refine blk_drew ?_ | refine blk_alloc ?_ _)); refine blk_put (cs := #[.int .i64 0, .int .i64 0, .string (⟨#[]⟩ : ByteArray), .slice none 0 0]) ?_ 0 _ rfl; (with_reducible repeat (first | refine blk_drewN ?_ _ | refine blk_drew ?_ | refine blk_alloc ?_ _)); exact BK148.out) Try.underlying24 rfl (by kernel_rfl)) rfl ?_
                            exact ⟨_, by first | rfl | (simp [errW_none, errW_some] <;> rfl) | (simp [*, errW_none, errW_some] <;> rfl), by first | exact Kd.R_nil _ _ _ _ _ | exact Kd.N_nil _ _ _ _ _ | exact Kd.V_nil _ _ _ _ _ | exact Kd.Q_nil _ _ _ _ _ | exact Kd.S_nil _ _ _ _ _, by repeat (first | (with_reducible first | exact HB.out | apply below_alloc | apply pw_below_drewN | apply below_drew1 | refine below_set ?_ GE148.out | refine below_set ?_ GE151.out) | exact HB.out)⟩
                          · rw [if_neg c25] at H
                            have c25b0 : decide (x7_3 < 56) = false := decide_eq_false c25
                            clear c25
                            have H' := Aside0.mk H
                            clear H
                            go_wp2
                            go_meet
                            case rel => exact ⟨_, (x7_3), ((wrap64 (1 + (wrap64 ((wrap64 (IntKind.u64.wrap (Int.tmod (rd l0 0) 64))) - 55))))), (0), (0), ((⟨#[]⟩ : ByteArray)), (by first | rfl | (simp; done) | (simp [*]; done) | (simp [ne_nil_bool]; done)), (by first | rfl | (simp; done) | (simp [*]; done) | (simp [ne_nil_bool]; done)), H', ⟨by have := HJ2.out; have := HJ15.out; have := HK3.out; first | omega | exact Nat.le_refl _⟩, ⟨by (with_reducible repeat (first | refine blk_drewN ?_ _ | refine blk_drew ?_ | refine blk_alloc ?_ _)); exact BK148.out⟩, ⟨by (with_reducible repeat (first | refine blk_drewN ?_ _ | refine blk_drew ?_ | refine blk_alloc ?_ _)); exact BK151.out⟩, ⟨by repeat (first | (with_reducible first | exact HB.out | apply below_alloc | apply pw_below_drewN | apply below_drew1 | refine below_set ?_ GE148.out | refine below_set ?_ GE151.out) | exact HB.out)⟩⟩
            · rw [if_neg c15] at H
              have c15b0 : decide (56 ≤ (IntKind.u64.wrap (Int.tmod (rd l0 0) 64))) = false := decide_eq_false c15
              clear c15
              (first | rw [c15b0] | (simp only [i64_w, i32_w]; rw [c15b0]) | skip)
              have H' := Aside0.mk H
              clear H
              go_wp2
              go_meet
              case rel => exact ⟨_, (IntKind.u64.wrap (Int.tmod (rd l0 0) 64)), (1), (0), (0), ((⟨#[]⟩ : ByteArray)), (by first | rfl | (simp; done) | (simp [*]; done) | (simp [ne_nil_bool]; done)), (by first | rfl | (simp; done) | (simp [*]; done) | (simp [ne_nil_bool]; done)), H', ⟨by have := HJ2.out; first | omega | exact Nat.le_refl _⟩, ⟨by (with_reducible repeat (first | refine blk_drewN ?_ _ | refine blk_drew ?_ | refine blk_alloc ?_ _)); refine blk_far ?_ NB148_151.out _; (with_reducible repeat (first | refine blk_drewN ?_ _ | refine blk_drew ?_ | refine blk_alloc ?_ _)); refine blk_far ?_ NB148_151.out _; (with_reducible repeat (first | refine blk_drewN ?_ _ | refine blk_drew ?_ | refine blk_alloc ?_ _)); refine blk_far ?_ NB148_151.out _; (with_reducible repeat (first | refine blk_drewN ?_ _ | refine blk_drew ?_ | refine blk_alloc ?_ _)); refine blk_far ?_ NB148_151.out _; (with_reducible repeat (first | refine blk_drewN ?_ _ | refine blk_drew ?_ | refine blk_alloc ?_ _)); exact BK148.out⟩, ⟨by (with_reducible repeat (first | refine blk_drewN ?_ _ | refine blk_drew ?_ | refine blk_alloc ?_ _)); refine blk_put (cs := #[.int .i64 (wrap64 (Int.tdiv (wrap64 (rd l0 0)) 64)), .int .i64 0, .string (⟨#[]⟩ : ByteArray), .slice none 0 0]) ?_ 3 _ rfl; (with_reducible repeat (first | refine blk_drewN ?_ _ | refine blk_drew ?_ | refine blk_alloc ?_ _)); refine blk_put (cs := #[.int .i64 (wrap64 (Int.tdiv (wrap64 (rd l0 0)) 64)), .int .i64 0, .string (⟨#[]⟩ : ByteArray), .slice none 0 0]) ?_ 2 _ rfl; (with_reducible repeat (first | refine blk_drewN ?_ _ | refine blk_drew ?_ | refine blk_alloc ?_ _)); refine blk_put (cs := #[.int .i64 (wrap64 (Int.tdiv (wrap64 (rd l0 0)) 64)), .int .i64 0, .string (⟨#[]⟩ : ByteArray), .slice none 0 0]) ?_ 1 _ rfl; (with_reducible repeat (first | refine blk_drewN ?_ _ | refine blk_drew ?_ | refine blk_alloc ?_ _)); refine blk_put (cs := #[.int .i64 0, .int .i64 0, .string (⟨#[]⟩ : ByteArray), .slice none 0 0]) ?_ 0 _ rfl; (with_reducible repeat (first | refine blk_drewN ?_ _ | refine blk_drew ?_ | refine blk_alloc ?_ _)); exact BK151.out⟩, ⟨by repeat (first | (with_reducible first | exact HB.out | apply below_alloc | apply pw_below_drewN | apply below_drew1 | refine below_set ?_ GE148.out | refine below_set ?_ GE151.out) | exact HB.out)⟩⟩
          case rest =>
            clear HC11
            try clear c1
            try clear p1
            try clear q1
            try clear hx1
            try clear qi1
            try clear c2
            try clear p2
            try clear c5
            try clear c5b0
            try clear c5b1
            try clear c5b2
            try clear c6
            try clear c6b0
            try clear c6b1
            try clear p6
            try clear c7
            try clear c7b0
            try clear c7b1
            try clear c8
            try clear c10
            try clear c10b0
            try clear c10b1
            try clear c13
            try clear p14
            try clear q14
            try clear hx14
            try clear qi14
            try clear c15
            try clear c15b0
            try clear p15
            try clear q15
            try clear hx15
            try clear qi15
            try clear c17
            try clear c17b0
            try clear c18
            try clear c18b0
            try clear c18b1
            try clear c19
            try clear c20
            try clear c22
            try clear c22b0
            try clear c23
            try clear c23b0
            try clear c24
            try clear c24b0
            try clear c25
            try clear c25b0
            try clear c26
            try clear c27
            try clear hcz14_0
            try clear hcz14_1
            try clear hcz14_2
            try clear hcz14_3
            try clear hcz21_0
            try clear hcz21_1
            try clear hcz21_2
            try clear hcz21_3
            try clear hcz27_0
            try clear hcz27_1
            try clear hcz27_2
            try clear hcz27_3
            try clear hcz9_0
            try clear hcz9_1
            try clear hcz9_2
            try clear hcz9_3
            try clear hfz14_0
            try clear hfz14_1
            try clear hfz14_2
            try clear hfz14_3
            try clear hfz21_0
            try clear hfz21_1
            try clear hfz21_2
            try clear hfz21_3
            try clear hfz27_0
            try clear hfz27_1
            try clear hfz27_2
            try clear hfz27_3
            try clear hfz9_0
            try clear hfz9_1
            try clear hfz9_2
            try clear hfz9_3
            try clear hx149_0
            try clear hx150_0
            try clear hx152_0
            try clear hx153_0
            try clear hx154_0
            try clear p1
            try clear p14
            try clear p149
            try clear p15
            try clear p150
            try clear p152
            try clear p153
            try clear p154
            try clear p2
            try clear p6
            try clear q1
            try clear q14
            try clear q149
            try clear q15
            try clear q150
            try clear q152
            try clear q153
            try clear q154
            obtain ⟨kq, x7_10, x8_10, x149000_10, x149001_10, x149002_10, rfl, rfl, HA, HJ10, BK148, BK151, HB⟩ := hcut
            cases kq with
            | zero => exact absurd HA.out (by simp [vinculumref03_Read.j3])
            | succ kj10 =>
              have H := HA.out
              clear HA
              simp only [vinculumref03_Read.j3] at H
              by_cases c28 : (wrap64 (Int.tdiv (wrap64 (rd l0 0)) 64)) = 1
              · rw [if_pos c28] at H
                have c28b0 : ((wrap64 (Int.tdiv (wrap64 (rd l0 0)) 64)) == 1) = true := beq_iff_eq.mpr c28
                have c28b1 : ((wrap64 (Int.tdiv (wrap64 (rd l0 0)) 64)) != 1) = false := bne_eq_false_iff_eq.mpr c28
                clear c28
                by_cases c29 : (Int.tmod x7_10 2) = 1
                · rw [if_pos c29] at H
                  have c29b0 : ((Int.tmod x7_10 2) == 1) = true := beq_iff_eq.mpr c29
                  have c29b1 : ((Int.tmod x7_10 2) != 1) = false := bne_eq_false_iff_eq.mpr c29
                  clear c29
                  simp only [Option.some.injEq, Prod.mk.injEq] at H
                  obtain ⟨rfl, rfl, rfl, rfl, rfl⟩ := H
                  have hnb30 := NB151_148.out
                  have hnc30 := NB148_151.out
                  have hcz31_0 : wc.cell? ⟨gb151, 0, none⟩ = some (.int .i64 (wrap64 (Int.tdiv (wrap64 (rd l0 0)) 64))) := (blk_cell BK151.out 0).trans rfl
                  have hcz31_1 : wc.cell? ⟨gb151, 1, none⟩ = some (.int .i64 0) := (blk_cell BK151.out 1).trans rfl
                  have hcz31_2 : wc.cell? ⟨gb151, 2, none⟩ = some (.string (⟨#[]⟩ : ByteArray)) := (blk_cell BK151.out 2).trans rfl
                  have hcz31_3 : wc.cell? ⟨gb151, 3, none⟩ = some (.slice none 0 0) := (blk_cell BK151.out 3).trans rfl
                  have hfz31_0 := blk_frozen BK151.out 0
                  have hfz31_1 := blk_frozen BK151.out 1
                  have hfz31_2 := blk_frozen BK151.out 2
                  have hfz31_3 := blk_frozen BK151.out 3
                  have hcz32_0 : wc.cell? ⟨gb148, 0, none⟩ = some (.int .i64 x149000_10) := (blk_cell BK148.out 0).trans rfl
                  have hcz32_1 : wc.cell? ⟨gb148, 1, none⟩ = some (.int .i64 x149001_10) := (blk_cell BK148.out 1).trans rfl
                  have hcz32_2 : wc.cell? ⟨gb148, 2, none⟩ = some (.string x149002_10) := (blk_cell BK148.out 2).trans rfl
                  have hcz32_3 : wc.cell? ⟨gb148, 3, none⟩ = some (.slice none 0 0) := (blk_cell BK148.out 3).trans rfl
                  have hfz32_0 := blk_frozen BK148.out 0
                  have hfz32_1 := blk_frozen BK148.out 1
                  have hfz32_2 := blk_frozen BK148.out 2
                  have hfz32_3 := blk_frozen BK148.out 3
                  go_wp2
                  refine bodyPost_ret (results_ct rfl _ _ gb148 24 #[.int .i64 (wrap64 (Int.tdiv (wrap64 (rd l0 0)) 64)), .int .i64 (wrap64 ((wrap64 (-(wrap64 (IntKind.u64.wrap (Int.tdiv x7_10 2))))) - 1)), .string (⟨#[]⟩ : ByteArray), .slice none 0 0] (0, 0) _ rfl (by (with_reducible repeat (first | refine blk_drewN ?_ _ | refine blk_drew ?_ | refine blk_alloc ?_ _)); refine blk_put (cs := #[.int .i64 (wrap64 (Int.tdiv (wrap64 (rd l0 0)) 64)), .int .i64 (wrap64 ((wrap64 (-(wrap64 (IntKind.u64.wrap (Int.tdiv x7_10 2))))) - 1)), .string (⟨#[]⟩ : ByteArray), .slice none 0 0]) ?_ 3 _ rfl; (with_reducible repeat (first | refine blk_drewN ?_ _ | refine blk_drew ?_ | refine blk_alloc ?_ _)); refine blk_put (cs := #[.int .i64 (wrap64 (Int.tdiv (wrap64 (rd l0 0)) 64)), .int .i64 (wrap64 ((wrap64 (-(wrap64 (IntKind.u64.wrap (Int.tdiv x7_10 2))))) - 1)), .string x149002_10, .slice none 0 0]) ?_ 2 _ rfl; (with_reducible repeat (first | refine blk_drewN ?_ _ | refine blk_drew ?_ | refine blk_alloc ?_ _)); refine blk_put (cs := #[.int .i64 (wrap64 (Int.tdiv (wrap64 (rd l0 0)) 64)), .int .i64 x149001_10, .string x149002_10, .slice none 0 0]) ?_ 1 _ rfl; (with_reducible repeat (first | refine blk_drewN ?_ _ | refine blk_drew ?_ | refine blk_alloc ?_ _)); refine blk_put (cs := #[.int .i64 x149000_10, .int .i64 x149001_10, .string x149002_10, .slice none 0 0]) ?_ 0 _ rfl; (with_reducible repeat (first | refine blk_drewN ?_ _ | refine blk_drew ?_ | refine blk_alloc ?_ _)); refine blk_far ?_ NB148_151.out _; (with_reducible repeat (first | refine blk_drewN ?_ _ | refine blk_drew ?_ | refine blk_alloc ?_ _)); refine blk_far ?_ NB148_151.out _; (with_reducible repeat (first | refine blk_drewN ?_ _ | refine blk_drew ?_ | refine blk_alloc ?_ _)); exact BK148.out) Try.underlying24 rfl (by kernel_rfl)) rfl ?_
                  exact ⟨_, by first | rfl | (simp [errW_none, errW_some] <;> rfl) | (simp [*, errW_none, errW_some] <;> rfl), by first | exact Kd.R_nil _ _ _ _ _ | exact Kd.N_nil _ _ _ _ _ | exact Kd.V_nil _ _ _ _ _ | exact Kd.Q_nil _ _ _ _ _ | exact Kd.S_nil _ _ _ _ _, by repeat (first | (with_reducible first | exact HB.out | apply below_alloc | apply pw_below_drewN | apply below_drew1 | refine below_set ?_ GE148.out | refine below_set ?_ GE151.out) | exact HB.out)⟩
                · rw [if_neg c29] at H
                  have c29b0 : ((Int.tmod x7_10 2) == 1) = false := beq_eq_false_iff_ne.mpr c29
                  have c29b1 : ((Int.tmod x7_10 2) != 1) = true := bne_iff_ne.mpr c29
                  simp only [Option.some.injEq, Prod.mk.injEq] at H
                  obtain ⟨rfl, rfl, rfl, rfl, rfl⟩ := H
                  have hnb33 := NB151_148.out
                  have hnc33 := NB148_151.out
                  have hcz34_0 : wc.cell? ⟨gb151, 0, none⟩ = some (.int .i64 (wrap64 (Int.tdiv (wrap64 (rd l0 0)) 64))) := (blk_cell BK151.out 0).trans rfl
                  have hcz34_1 : wc.cell? ⟨gb151, 1, none⟩ = some (.int .i64 0) := (blk_cell BK151.out 1).trans rfl
                  have hcz34_2 : wc.cell? ⟨gb151, 2, none⟩ = some (.string (⟨#[]⟩ : ByteArray)) := (blk_cell BK151.out 2).trans rfl
                  have hcz34_3 : wc.cell? ⟨gb151, 3, none⟩ = some (.slice none 0 0) := (blk_cell BK151.out 3).trans rfl
                  have hfz34_0 := blk_frozen BK151.out 0
                  have hfz34_1 := blk_frozen BK151.out 1
                  have hfz34_2 := blk_frozen BK151.out 2
                  have hfz34_3 := blk_frozen BK151.out 3
                  have hcz35_0 : wc.cell? ⟨gb148, 0, none⟩ = some (.int .i64 x149000_10) := (blk_cell BK148.out 0).trans rfl
                  have hcz35_1 : wc.cell? ⟨gb148, 1, none⟩ = some (.int .i64 x149001_10) := (blk_cell BK148.out 1).trans rfl
                  have hcz35_2 : wc.cell? ⟨gb148, 2, none⟩ = some (.string x149002_10) := (blk_cell BK148.out 2).trans rfl
                  have hcz35_3 : wc.cell? ⟨gb148, 3, none⟩ = some (.slice none 0 0) := (blk_cell BK148.out 3).trans rfl
                  have hfz35_0 := blk_frozen BK148.out 0
                  have hfz35_1 := blk_frozen BK148.out 1
                  have hfz35_2 := blk_frozen BK148.out 2
                  have hfz35_3 := blk_frozen BK148.out 3
                  go_wp2
                  refine bodyPost_ret (results_ct rfl _ _ gb148 24 #[.int .i64 (wrap64 (Int.tdiv (wrap64 (rd l0 0)) 64)), .int .i64 (wrap64 (IntKind.u64.wrap (Int.tdiv x7_10 2))), .string (⟨#[]⟩ : ByteArray), .slice none 0 0] (0, 0) _ rfl (by (with_reducible repeat (first | refine blk_drewN ?_ _ | refine blk_drew ?_ | refine blk_alloc ?_ _)); refine blk_put (cs := #[.int .i64 (wrap64 (Int.tdiv (wrap64 (rd l0 0)) 64)), .int .i64 (wrap64 (IntKind.u64.wrap (Int.tdiv x7_10 2))), .string (⟨#[]⟩ : ByteArray), .slice none 0 0]) ?_ 3 _ rfl; (with_reducible repeat (first | refine blk_drewN ?_ _ | refine blk_drew ?_ | refine blk_alloc ?_ _)); refine blk_put (cs := #[.int .i64 (wrap64 (Int.tdiv (wrap64 (rd l0 0)) 64)), .int .i64 (wrap64 (IntKind.u64.wrap (Int.tdiv x7_10 2))), .string x149002_10, .slice none 0 0]) ?_ 2 _ rfl; (with_reducible repeat (first | refine blk_drewN ?_ _ | refine blk_drew ?_ | refine blk_alloc ?_ _)); refine blk_put (cs := #[.int .i64 (wrap64 (Int.tdiv (wrap64 (rd l0 0)) 64)), .int .i64 x149001_10, .string x149002_10, .slice none 0 0]) ?_ 1 _ rfl; (with_reducible repeat (first | refine blk_drewN ?_ _ | refine blk_drew ?_ | refine blk_alloc ?_ _)); refine blk_put (cs := #[.int .i64 x149000_10, .int .i64 x149001_10, .string x149002_10, .slice none 0 0]) ?_ 0 _ rfl; (with_reducible repeat (first | refine blk_drewN ?_ _ | refine blk_drew ?_ | refine blk_alloc ?_ _)); refine blk_far ?_ NB148_151.out _; (with_reducible repeat (first | refine blk_drewN ?_ _ | refine blk_drew ?_ | refine blk_alloc ?_ _)); exact BK148.out) Try.underlying24 rfl (by kernel_rfl)) rfl ?_
                  exact ⟨_, by first | rfl | (simp [errW_none, errW_some] <;> rfl) | (simp [*, errW_none, errW_some] <;> rfl), by first | exact Kd.R_nil _ _ _ _ _ | exact Kd.N_nil _ _ _ _ _ | exact Kd.V_nil _ _ _ _ _ | exact Kd.Q_nil _ _ _ _ _ | exact Kd.S_nil _ _ _ _ _, by repeat (first | (with_reducible first | exact HB.out | apply below_alloc | apply pw_below_drewN | apply below_drew1 | refine below_set ?_ GE148.out | refine below_set ?_ GE151.out) | exact HB.out)⟩
              · rw [if_neg c28] at H
                have c28b0 : ((wrap64 (Int.tdiv (wrap64 (rd l0 0)) 64)) == 1) = false := beq_eq_false_iff_ne.mpr c28
                have c28b1 : ((wrap64 (Int.tdiv (wrap64 (rd l0 0)) 64)) != 1) = true := bne_iff_ne.mpr c28
                by_cases c36 : (wrap64 (Int.tdiv (wrap64 (rd l0 0)) 64)) = 2
                · rw [if_pos c36] at H
                  have c36b0 : ((wrap64 (Int.tdiv (wrap64 (rd l0 0)) 64)) == 2) = true := beq_iff_eq.mpr c36
                  have c36b1 : ((wrap64 (Int.tdiv (wrap64 (rd l0 0)) 64)) != 2) = false := bne_eq_false_iff_eq.mpr c36
                  clear c36
                  by_cases c37 : x7_10 > (IntKind.u64.wrap (wrap64 ((l0.length : Int) - x8_10)))
                  · rw [if_pos c37] at H
                    have c37b0 : decide ((IntKind.u64.wrap (wrap64 ((l0.length : Int) - x8_10))) < x7_10) = true := decide_eq_true c37
                    clear c37
                    simp only [Option.some.injEq, Prod.mk.injEq] at H
                    obtain ⟨rfl, rfl, rfl, rfl, rfl⟩ := H
                    have hnb38 := NB151_148.out
                    have hnc38 := NB148_151.out
                    have hcz39_0 : wc.cell? ⟨gb151, 0, none⟩ = some (.int .i64 (wrap64 (Int.tdiv (wrap64 (rd l0 0)) 64))) := (blk_cell BK151.out 0).trans rfl
                    have hcz39_1 : wc.cell? ⟨gb151, 1, none⟩ = some (.int .i64 0) := (blk_cell BK151.out 1).trans rfl
                    have hcz39_2 : wc.cell? ⟨gb151, 2, none⟩ = some (.string (⟨#[]⟩ : ByteArray)) := (blk_cell BK151.out 2).trans rfl
                    have hcz39_3 : wc.cell? ⟨gb151, 3, none⟩ = some (.slice none 0 0) := (blk_cell BK151.out 3).trans rfl
                    have hfz39_0 := blk_frozen BK151.out 0
                    have hfz39_1 := blk_frozen BK151.out 1
                    have hfz39_2 := blk_frozen BK151.out 2
                    have hfz39_3 := blk_frozen BK151.out 3
                    have hcz40_0 : wc.cell? ⟨gb148, 0, none⟩ = some (.int .i64 x149000_10) := (blk_cell BK148.out 0).trans rfl
                    have hcz40_1 : wc.cell? ⟨gb148, 1, none⟩ = some (.int .i64 x149001_10) := (blk_cell BK148.out 1).trans rfl
                    have hcz40_2 : wc.cell? ⟨gb148, 2, none⟩ = some (.string x149002_10) := (blk_cell BK148.out 2).trans rfl
                    have hcz40_3 : wc.cell? ⟨gb148, 3, none⟩ = some (.slice none 0 0) := (blk_cell BK148.out 3).trans rfl
                    have hfz40_0 := blk_frozen BK148.out 0
                    have hfz40_1 := blk_frozen BK148.out 1
                    have hfz40_2 := blk_frozen BK148.out 2
                    have hfz40_3 := blk_frozen BK148.out 3
                    go_wp2
                    refine bodyPost_ret (results_ct rfl _ _ gb148 24 #[.int .i64 0, .int .i64 0, .string (⟨#[]⟩ : ByteArray), .slice none 0 0] (0, 0) _ rfl (by (with_reducible repeat (first | refine blk_drewN ?_ _ | refine blk_drew ?_ | refine blk_alloc ?_ _)); refine blk_put (cs := #[.int .i64 0, .int .i64 0, .string (⟨#[]⟩ : ByteArray), .slice none 0 0]) ?_ 3 _ rfl; (with_reducible repeat (first | refine blk_drewN ?_ _ | refine blk_drew ?_ | refine blk_alloc ?_ _)); refine blk_put (cs := #[.int .i64 0, .int .i64 0, .string x149002_10, .slice none 0 0]) ?_ 2 _ rfl; (with_reducible repeat (first | refine blk_drewN ?_ _ | refine blk_drew ?_ | refine blk_alloc ?_ _)); refine blk_put (cs := #[.int .i64 0, .int .i64 x149001_10, .string x149002_10, .slice none 0 0]) ?_ 1 _ rfl; (with_reducible repeat (first | refine blk_drewN ?_ _ | refine blk_drew ?_ | refine blk_alloc ?_ _)); refine blk_put (cs := #[.int .i64 x149000_10, .int .i64 x149001_10, .string x149002_10, .slice none 0 0]) ?_ 0 _ rfl; (with_reducible repeat (first | refine blk_drewN ?_ _ | refine blk_drew ?_ | refine blk_alloc ?_ _)); exact BK148.out) Try.underlying24 rfl (by kernel_rfl)) rfl ?_
                    exact ⟨_, by first | rfl | (simp [errW_none, errW_some] <;> rfl) | (simp [*, errW_none, errW_some] <;> rfl), by first | exact Kd.R_nil _ _ _ _ _ | exact Kd.N_nil _ _ _ _ _ | exact Kd.V_nil _ _ _ _ _ | exact Kd.Q_nil _ _ _ _ _ | exact Kd.S_nil _ _ _ _ _, by repeat (first | (with_reducible first | exact HB.out | apply below_alloc | apply pw_below_drewN | apply below_drew1 | refine below_set ?_ GE148.out | refine below_set ?_ GE151.out) | exact HB.out)⟩
                  · rw [if_neg c37] at H
                    have c37b0 : decide ((IntKind.u64.wrap (wrap64 ((l0.length : Int) - x8_10))) < x7_10) = false := decide_eq_false c37
                    clear c37
                    by_cases c41 : 0 ≤ x8_10
                    · rw [if_pos c41] at H
                      have c41b0 := eq_true c41
                      have c41b1 : decide (0 ≤ x8_10) = true := decide_eq_true c41
                      clear c41
                      by_cases c42 : x8_10 ≤ (wrap64 (x8_10 + (wrap64 (x7_10))))
                      · rw [if_pos c42] at H
                        have c42b0 := eq_true c42
                        have c42b1 : decide (x8_10 ≤ (wrap64 (x8_10 + (wrap64 (x7_10))))) = true := decide_eq_true c42
                        by_cases c43 : (wrap64 (x8_10 + (wrap64 (x7_10)))) ≤ (l0.length : Int)
                        · rw [if_pos c43] at H
                          have c43b0 := eq_true c43
                          have c43b1 : decide ((wrap64 (x8_10 + (wrap64 (x7_10)))) ≤ (l0.length : Int)) = true := decide_eq_true c43
                          simp only [Option.some.injEq, Prod.mk.injEq] at H
                          obtain ⟨rfl, rfl, rfl, rfl, rfl⟩ := H
                          have hnb44 := NB151_148.out
                          have hnc44 := NB148_151.out
                          have hcz45_0 : wc.cell? ⟨gb151, 0, none⟩ = some (.int .i64 (wrap64 (Int.tdiv (wrap64 (rd l0 0)) 64))) := (blk_cell BK151.out 0).trans rfl
                          have hcz45_1 : wc.cell? ⟨gb151, 1, none⟩ = some (.int .i64 0) := (blk_cell BK151.out 1).trans rfl
                          have hcz45_2 : wc.cell? ⟨gb151, 2, none⟩ = some (.string (⟨#[]⟩ : ByteArray)) := (blk_cell BK151.out 2).trans rfl
                          have hcz45_3 : wc.cell? ⟨gb151, 3, none⟩ = some (.slice none 0 0) := (blk_cell BK151.out 3).trans rfl
                          have hfz45_0 := blk_frozen BK151.out 0
                          have hfz45_1 := blk_frozen BK151.out 1
                          have hfz45_2 := blk_frozen BK151.out 2
                          have hfz45_3 := blk_frozen BK151.out 3
                          obtain ⟨i046, hi046, _, hsz46, _⟩ := info_parts info5
                          obtain ⟨A46, hcut46, hA46, hC46⟩ := print_mid_of (P := Try.prog) (Value.int .u8) 0 31 5 .i64 .i64 Try.underlying31 hi046 hsz46 (some ad150) c0 l0 x8_10 (wrap64 (x8_10 + (wrap64 (x7_10)))) (of_decide_eq_true (by first | (with_reducible assumption) | assumption)) (by first | omega | exact of_decide_eq_true (by first | (with_reducible assumption) | assumption)) (of_decide_eq_true (by first | (with_reducible assumption) | assumption)) HC0.out
                          have HR155 := Aside0.mk (Kd.C_of_reads (h1 := fun _ => rfl) (hA46 _ (Kd.reads_of_C HR0.out)))
                          have HC155 := Aside0.mk hC46
                          clear hA46 hC46 hi046 hsz46
                          have hcv47 := Kd.C_string (P := Try.prog) (A := A46) (c := (c0 - x8_10.toNat)) Try.underlying31 Try.underlying5 Try.underlying9 (Kd.C_below HR155.out HB.out)
                          rw [List.length_drop, List.length_take, Nat.min_eq_left (Int.toNat_le.2 (of_decide_eq_true (by first | (with_reducible assumption) | assumption) : (wrap64 (x8_10 + (wrap64 (x7_10)))) ≤ (l0.length : Int)))] at hcv47
                          have hcz48_0 : wc.cell? ⟨gb148, 0, none⟩ = some (.int .i64 x149000_10) := (blk_cell BK148.out 0).trans rfl
                          have hcz48_1 : wc.cell? ⟨gb148, 1, none⟩ = some (.int .i64 x149001_10) := (blk_cell BK148.out 1).trans rfl
                          have hcz48_2 : wc.cell? ⟨gb148, 2, none⟩ = some (.string x149002_10) := (blk_cell BK148.out 2).trans rfl
                          have hcz48_3 : wc.cell? ⟨gb148, 3, none⟩ = some (.slice none 0 0) := (blk_cell BK148.out 3).trans rfl
                          have hfz48_0 := blk_frozen BK148.out 0
                          have hfz48_1 := blk_frozen BK148.out 1
                          have hfz48_2 := blk_frozen BK148.out 2
                          have hfz48_3 := blk_frozen BK148.out 3
                          go_wp2
                          refine bodyPost_ret (results_ct rfl _ _ gb148 24 #[.int .i64 (wrap64 (Int.tdiv (wrap64 (rd l0 0)) 64)), .int .i64 0, .string (strOfNums ((l0.take ((wrap64 (x8_10 + (wrap64 (x7_10)))) : Int).toNat).drop (x8_10 : Int).toNat)), .slice none 0 0] (0, 0) _ rfl (by (with_reducible repeat (first | refine blk_drewN ?_ _ | refine blk_drew ?_ | refine blk_alloc ?_ _)); refine blk_put (cs := #[.int .i64 (wrap64 (Int.tdiv (wrap64 (rd l0 0)) 64)), .int .i64 0, .string (strOfNums ((l0.take ((wrap64 (x8_10 + (wrap64 (x7_10)))) : Int).toNat).drop (x8_10 : Int).toNat)), .slice none 0 0]) ?_ 3 _ rfl; (with_reducible repeat (first | refine blk_drewN ?_ _ | refine blk_drew ?_ | refine blk_alloc ?_ _)); refine blk_put (cs := #[.int .i64 (wrap64 (Int.tdiv (wrap64 (rd l0 0)) 64)), .int .i64 0, .string x149002_10, .slice none 0 0]) ?_ 2 _ rfl; (with_reducible repeat (first | refine blk_drewN ?_ _ | refine blk_drew ?_ | refine blk_alloc ?_ _)); refine blk_put (cs := #[.int .i64 (wrap64 (Int.tdiv (wrap64 (rd l0 0)) 64)), .int .i64 x149001_10, .string x149002_10, .slice none 0 0]) ?_ 1 _ rfl; (with_reducible repeat (first | refine blk_drewN ?_ _ | refine blk_drew ?_ | refine blk_alloc ?_ _)); refine blk_put (cs := #[.int .i64 x149000_10, .int .i64 x149001_10, .string x149002_10, .slice none 0 0]) ?_ 0 _ rfl; (with_reducible repeat (first | refine blk_drewN ?_ _ | refine blk_drew ?_ | refine blk_alloc ?_ _)); refine blk_far ?_ NB148_151.out _; (with_reducible repeat (first | refine blk_drewN ?_ _ | refine blk_drew ?_ | refine blk_alloc ?_ _)); exact BK148.out) Try.underlying24 rfl (by kernel_rfl)) rfl ?_
                          exact ⟨_, by first | rfl | (simp [errW_none, errW_some] <;> rfl) | (simp [*, errW_none, errW_some] <;> rfl), by first | exact Kd.R_nil _ _ _ _ _ | exact Kd.N_nil _ _ _ _ _ | exact Kd.V_nil _ _ _ _ _ | exact Kd.Q_nil _ _ _ _ _ | exact Kd.S_nil _ _ _ _ _, by repeat (first | (with_reducible first | exact HB.out | apply below_alloc | apply pw_below_drewN | apply below_drew1 | refine below_set ?_ GE148.out | refine below_set ?_ GE151.out) | exact HB.out)⟩
                        · rw [if_neg c43] at H
                          exact absurd H (by simp)
                      · rw [if_neg c42] at H
                        exact absurd H (by simp)
                    · rw [if_neg c41] at H
                      exact absurd H (by simp)
                · rw [if_neg c36] at H
                  have c36b0 : ((wrap64 (Int.tdiv (wrap64 (rd l0 0)) 64)) == 2) = false := beq_eq_false_iff_ne.mpr c36
                  have c36b1 : ((wrap64 (Int.tdiv (wrap64 (rd l0 0)) 64)) != 2) = true := bne_iff_ne.mpr c36
                  by_cases c49 : x7_10 > (IntKind.u64.wrap (wrap64 ((l0.length : Int) - x8_10)))
                  · rw [if_pos c49] at H
                    have c49b0 : decide ((IntKind.u64.wrap (wrap64 ((l0.length : Int) - x8_10))) < x7_10) = true := decide_eq_true c49
                    clear c49
                    simp only [Option.some.injEq, Prod.mk.injEq] at H
                    obtain ⟨rfl, rfl, rfl, rfl, rfl⟩ := H
                    have hnb50 := NB151_148.out
                    have hnc50 := NB148_151.out
                    have hcz51_0 : wc.cell? ⟨gb151, 0, none⟩ = some (.int .i64 (wrap64 (Int.tdiv (wrap64 (rd l0 0)) 64))) := (blk_cell BK151.out 0).trans rfl
                    have hcz51_1 : wc.cell? ⟨gb151, 1, none⟩ = some (.int .i64 0) := (blk_cell BK151.out 1).trans rfl
                    have hcz51_2 : wc.cell? ⟨gb151, 2, none⟩ = some (.string (⟨#[]⟩ : ByteArray)) := (blk_cell BK151.out 2).trans rfl
                    have hcz51_3 : wc.cell? ⟨gb151, 3, none⟩ = some (.slice none 0 0) := (blk_cell BK151.out 3).trans rfl
                    have hfz51_0 := blk_frozen BK151.out 0
                    have hfz51_1 := blk_frozen BK151.out 1
                    have hfz51_2 := blk_frozen BK151.out 2
                    have hfz51_3 := blk_frozen BK151.out 3
                    have hcz52_0 : wc.cell? ⟨gb148, 0, none⟩ = some (.int .i64 x149000_10) := (blk_cell BK148.out 0).trans rfl
                    have hcz52_1 : wc.cell? ⟨gb148, 1, none⟩ = some (.int .i64 x149001_10) := (blk_cell BK148.out 1).trans rfl
                    have hcz52_2 : wc.cell? ⟨gb148, 2, none⟩ = some (.string x149002_10) := (blk_cell BK148.out 2).trans rfl
                    have hcz52_3 : wc.cell? ⟨gb148, 3, none⟩ = some (.slice none 0 0) := (blk_cell BK148.out 3).trans rfl
                    have hfz52_0 := blk_frozen BK148.out 0
                    have hfz52_1 := blk_frozen BK148.out 1
                    have hfz52_2 := blk_frozen BK148.out 2
                    have hfz52_3 := blk_frozen BK148.out 3
                    go_wp2
                    refine bodyPost_ret (results_ct rfl _ _ gb148 24 #[.int .i64 0, .int .i64 0, .string (⟨#[]⟩ : ByteArray), .slice none 0 0] (0, 0) _ rfl (by (with_reducible repeat (first | refine blk_drewN ?_ _ | refine blk_drew ?_ | refine blk_alloc ?_ _)); refine blk_put (cs := #[.int .i64 0, .int .i64 0, .string (⟨#[]⟩ : ByteArray), .slice none 0 0]) ?_ 3 _ rfl; (with_reducible repeat (first | refine blk_drewN ?_ _ | refine blk_drew ?_ | refine blk_alloc ?_ _)); refine blk_put (cs := #[.int .i64 0, .int .i64 0, .string x149002_10, .slice none 0 0]) ?_ 2 _ rfl; (with_reducible repeat (first | refine blk_drewN ?_ _ | refine blk_drew ?_ | refine blk_alloc ?_ _)); refine blk_put (cs := #[.int .i64 0, .int .i64 x149001_10, .string x149002_10, .slice none 0 0]) ?_ 1 _ rfl; (with_reducible repeat (first | refine blk_drewN ?_ _ | refine blk_drew ?_ | refine blk_alloc ?_ _)); refine blk_put (cs := #[.int .i64 x149000_10, .int .i64 x149001_10, .string x149002_10, .slice none 0 0]) ?_ 0 _ rfl; (with_reducible repeat (first | refine blk_drewN ?_ _ | refine blk_drew ?_ | refine blk_alloc ?_ _)); exact BK148.out) Try.underlying24 rfl (by kernel_rfl)) rfl ?_
                    exact ⟨_, by first | rfl | (simp [errW_none, errW_some] <;> rfl) | (simp [*, errW_none, errW_some] <;> rfl), by first | exact Kd.R_nil _ _ _ _ _ | exact Kd.N_nil _ _ _ _ _ | exact Kd.V_nil _ _ _ _ _ | exact Kd.Q_nil _ _ _ _ _ | exact Kd.S_nil _ _ _ _ _, by repeat (first | (with_reducible first | exact HB.out | apply below_alloc | apply pw_below_drewN | apply below_drew1 | refine below_set ?_ GE148.out | refine below_set ?_ GE151.out) | exact HB.out)⟩
                  · rw [if_neg c49] at H
                    have c49b0 : decide ((IntKind.u64.wrap (wrap64 ((l0.length : Int) - x8_10))) < x7_10) = false := decide_eq_false c49
                    clear c49
                    have H' := Aside0.mk H
                    clear H
                    have hnb53 := NB151_148.out
                    have hnc53 := NB148_151.out
                    have hcz54_0 : wc.cell? ⟨gb151, 0, none⟩ = some (.int .i64 (wrap64 (Int.tdiv (wrap64 (rd l0 0)) 64))) := (blk_cell BK151.out 0).trans rfl
                    have hcz54_1 : wc.cell? ⟨gb151, 1, none⟩ = some (.int .i64 0) := (blk_cell BK151.out 1).trans rfl
                    have hcz54_2 : wc.cell? ⟨gb151, 2, none⟩ = some (.string (⟨#[]⟩ : ByteArray)) := (blk_cell BK151.out 2).trans rfl
                    have hcz54_3 : wc.cell? ⟨gb151, 3, none⟩ = some (.slice none 0 0) := (blk_cell BK151.out 3).trans rfl
                    have hfz54_0 := blk_frozen BK151.out 0
                    have hfz54_1 := blk_frozen BK151.out 1
                    have hfz54_2 := blk_frozen BK151.out 2
                    have hfz54_3 := blk_frozen BK151.out 3
                    go_wp2
                    go_loopg [8, 11] kj10 (fun kq v8 v11 w' => ∃ (x8_3 : Int) (x11_3 : Int) (x149000_3 : Int) (x149001_3 : Int) (x149002_3 : ByteArray) (x152003_3 : List (S24)) (u152003 : Value), v8 = .int .i64 x8_3 ∧ v11 = .int .i64 x11_3 ∧ Aside0 (vinculumref03_Read.l1 kq l0 a1 x7_10 x8_3 x11_3 (wrap64 (Int.tdiv (wrap64 (rd l0 0)) 64)) 0 (⟨#[]⟩ : ByteArray) x152003_3 = some (r1, r2, r3, r4, r5)) ∧ Aside0 (kq ≤ kj10) ∧ Aside0 (Kd.R k24 24 w' w.heap.size (fun k_ => k_ ≠ gb148 ∧ k_ ≠ gb151) u152003 x152003_3) ∧ Aside0 (w'.heap[gb148]? = some (.cells #[.int .i64 x149000_3, .int .i64 x149001_3, .string x149002_3, (.slice none 0 0)] 24 (0, 0))) ∧ Aside0 (w'.heap[gb151]? = some (.cells #[.int .i64 (wrap64 (Int.tdiv (wrap64 (rd l0 0)) 64)), .int .i64 0, .string (⟨#[]⟩ : ByteArray), u152003] 24 (0, 0))) ∧ Aside0 (Below w.heap.size w w'))
                    case atStart => exact ⟨(x8_10), (0), (x149000_10), (x149001_10), (x149002_10), (([] : List (S24))), (.slice none 0 0), (by first | rfl | (simp; done) | (simp [*]; done) | (simp [ne_nil_bool]; done)), (by first | rfl | (simp; done) | (simp [*]; done) | (simp [ne_nil_bool]; done)), H', ⟨Nat.le_refl _⟩, ⟨by first | exact Kd.R_nil _ _ _ _ _ | exact Kd.N_nil _ _ _ _ _ | exact Kd.V_nil _ _ _ _ _ | exact Kd.Q_nil _ _ _ _ _ | exact Kd.S_nil _ _ _ _ _⟩, ⟨by (with_reducible repeat (first | refine blk_drewN ?_ _ | refine blk_drew ?_ | refine blk_alloc ?_ _)); exact BK148.out⟩, ⟨by (with_reducible repeat (first | refine blk_drewN ?_ _ | refine blk_drew ?_ | refine blk_alloc ?_ _)); exact BK151.out⟩, ⟨by repeat (first | (with_reducible first | exact HB.out | apply below_alloc | apply pw_below_drewN | apply below_drew1 | refine below_set ?_ GE148.out | refine below_set ?_ GE151.out) | exact HB.out)⟩⟩
                    case round =>
                      clear H'
                      try clear c1
                      try clear p1
                      try clear q1
                      try clear hx1
                      try clear qi1
                      try clear c2
                      try clear p2
                      try clear c3
                      try clear c4
                      try clear hcv4
                      try clear c5
                      try clear c5b0
                      try clear c5b1
                      try clear c5b2
                      try clear c6
                      try clear c6b0
                      try clear c6b1
                      try clear p6
                      try clear c7
                      try clear c7b0
                      try clear c7b1
                      try clear c8
                      try clear c10
                      try clear c10b0
                      try clear c10b1
                      try clear c13
                      try clear p14
                      try clear q14
                      try clear hx14
                      try clear qi14
                      try clear c15
                      try clear c15b0
                      try clear p15
                      try clear q15
                      try clear hx15
                      try clear qi15
                      try clear c17
                      try clear c17b0
                      try clear c18
                      try clear c18b0
                      try clear c18b1
                      try clear c19
                      try clear c20
                      try clear c22
                      try clear c22b0
                      try clear c23
                      try clear c23b0
                      try clear c24
                      try clear c24b0
                      try clear c25
                      try clear c25b0
                      try clear c26
                      try clear c27
                      try clear c28
                      try clear c28b0
                      try clear c28b1
                      try clear c29
                      try clear c29b0
                      try clear c29b1
                      try clear c30
                      try clear c33
                      try clear c36
                      try clear c36b0
                      try clear c36b1
                      try clear c37
                      try clear c37b0
                      try clear c38
                      try clear c41
                      try clear c41b0
                      try clear c41b1
                      try clear c42
                      try clear c42b0
                      try clear c42b1
                      try clear c43
                      try clear c43b0
                      try clear c43b1
                      try clear c44
                      try clear hcv47
                      try clear c49
                      try clear c49b0
                      try clear c50
                      try clear c53
                      try clear hcz14_0
                      try clear hcz14_1
                      try clear hcz14_2
                      try clear hcz14_3
                      try clear hcz21_0
                      try clear hcz21_1
                      try clear hcz21_2
                      try clear hcz21_3
                      try clear hcz27_0
                      try clear hcz27_1
                      try clear hcz27_2
                      try clear hcz27_3
                      try clear hcz31_0
                      try clear hcz31_1
                      try clear hcz31_2
                      try clear hcz31_3
                      try clear hcz32_0
                      try clear hcz32_1
                      try clear hcz32_2
                      try clear hcz32_3
                      try clear hcz34_0
                      try clear hcz34_1
                      try clear hcz34_2
                      try clear hcz34_3
                      try clear hcz35_0
                      try clear hcz35_1
                      try clear hcz35_2
                      try clear hcz35_3
                      try clear hcz39_0
                      try clear hcz39_1
                      try clear hcz39_2
                      try clear hcz39_3
                      try clear hcz40_0
                      try clear hcz40_1
                      try clear hcz40_2
                      try clear hcz40_3
                      try clear hcz45_0
                      try clear hcz45_1
                      try clear hcz45_2
                      try clear hcz45_3
                      try clear hcz48_0
                      try clear hcz48_1
                      try clear hcz48_2
                      try clear hcz48_3
                      try clear hcz51_0
                      try clear hcz51_1
                      try clear hcz51_2
                      try clear hcz51_3
                      try clear hcz52_0
                      try clear hcz52_1
                      try clear hcz52_2
                      try clear hcz52_3
                      try clear hcz54_0
                      try clear hcz54_1
                      try clear hcz54_2
                      try clear hcz54_3
                      try clear hcz9_0
                      try clear hcz9_1
                      try clear hcz9_2
                      try clear hcz9_3
                      try clear hfz14_0
                      try clear hfz14_1
                      try clear hfz14_2
                      try clear hfz14_3
                      try clear hfz21_0
                      try clear hfz21_1
                      try clear hfz21_2
                      try clear hfz21_3
                      try clear hfz27_0
                      try clear hfz27_1
                      try clear hfz27_2
                      try clear hfz27_3
                      try clear hfz31_0
                      try clear hfz31_1
                      try clear hfz31_2
                      try clear hfz31_3
                      try clear hfz32_0
                      try clear hfz32_1
                      try clear hfz32_2
                      try clear hfz32_3
                      try clear hfz34_0
                      try clear hfz34_1
                      try clear hfz34_2
                      try clear hfz34_3
                      try clear hfz35_0
                      try clear hfz35_1
                      try clear hfz35_2
                      try clear hfz35_3
                      try clear hfz39_0
                      try clear hfz39_1
                      try clear hfz39_2
                      try clear hfz39_3
                      try clear hfz40_0
                      try clear hfz40_1
                      try clear hfz40_2
                      try clear hfz40_3
                      try clear hfz45_0
                      try clear hfz45_1
                      try clear hfz45_2
                      try clear hfz45_3
                      try clear hfz48_0
                      try clear hfz48_1
                      try clear hfz48_2
                      try clear hfz48_3
                      try clear hfz51_0
                      try clear hfz51_1
                      try clear hfz51_2
                      try clear hfz51_3
                      try clear hfz52_0
                      try clear hfz52_1
                      try clear hfz52_2
                      try clear hfz52_3
                      try clear hfz54_0
                      try clear hfz54_1
                      try clear hfz54_2
                      try clear hfz54_3
                      try clear hfz9_0
                      try clear hfz9_1
                      try clear hfz9_2
                      try clear hfz9_3
                      try clear hx149_0
                      try clear hx150_0
                      try clear hx152_0
                      try clear hx153_0
                      try clear hx154_0
                      try clear p1
                      try clear p14
                      try clear p149
                      try clear p15
                      try clear p150
                      try clear p152
                      try clear p153
                      try clear p154
                      try clear p2
                      try clear p6
                      try clear q1
                      try clear q14
                      try clear q149
                      try clear q15
                      try clear q150
                      try clear q152
                      try clear q153
                      try clear q154
                      obtain ⟨x8_3, x11_3, x149000_3, x149001_3, x149002_3, x152003_3, u152003, rfl, rfl, HA, HK3, HO_152003, BK148, BK151, HB⟩ := hrel
                      cases gk with
                      | zero => exact absurd HA.out (by simp [vinculumref03_Read.l1])
                      | succ k3 =>
                        have H := HA.out
                        clear HA
                        simp only [vinculumref03_Read.l1] at H
                        by_cases c55 : x11_3 < (wrap64 (x7_10))
                        · rw [if_pos c55] at H
                          have c55b0 : decide (x11_3 < (wrap64 (x7_10))) = true := decide_eq_true c55
                          clear c55
                          by_cases c56 : 0 ≤ x8_3
                          · rw [if_pos c56] at H
                            have c56b0 := eq_true c56
                            have c56b1 : decide (0 ≤ x8_3) = true := decide_eq_true c56
                            clear c56
                            by_cases c57 : x8_3 ≤ (l0.length : Int)
                            · rw [if_pos c57] at H
                              have c57b0 := eq_true c57
                              have c57b1 : decide (x8_3 ≤ (l0.length : Int)) = true := decide_eq_true c57
                              clear c57
                              replace H := Option.bind_eq_some_iff.mp H
                              obtain ⟨⟨t157, t158, t159, t160, t163⟩, A580, H⟩ := H
                              replace H : (if t163 = 0 then (some (0, 0, (⟨#[]⟩ : ByteArray), ([] : List (S24)), 0)) else (if x152003_3.length < 2513169434916 then (vinculumref03_Read.l1 k3 l0 a1 x7_10 (wrap64 (x8_3 + t163)) (wrap64 (x11_3 + 1)) (wrap64 (Int.tdiv (wrap64 (rd l0 0)) 64)) 0 (⟨#[]⟩ : ByteArray) (x152003_3 ++ [(⟨t157, t158, t159, t160⟩ : S24)])) else (none))) = some (r1, r2, r3, r4, r5) := H
                              have A58 := Aside0.mk A580
                              clear A580
                              by_cases c59 : t163 = 0
                              · rw [if_pos c59] at H
                                have c59b0 : (t163 == 0) = true := beq_iff_eq.mpr c59
                                have c59b1 : (t163 != 0) = false := bne_eq_false_iff_eq.mpr c59
                                clear c59
                                simp only [Option.some.injEq, Prod.mk.injEq] at H
                                obtain ⟨rfl, rfl, rfl, rfl, rfl⟩ := H
                                obtain ⟨i060, hi060, _, hsz60, _⟩ := info_parts info5
                                obtain ⟨A60, hcut60, hA60, hC60⟩ := print_drop_of (P := Try.prog) (Value.int .u8) 0 31 5 .i64 Try.underlying31 hi060 hsz60 (some ad150) c0 l0 x8_3 (of_decide_eq_true (by first | (with_reducible assumption) | assumption)) (of_decide_eq_true (by first | (with_reducible assumption) | assumption)) HC0.out
                                have HR156 := Aside0.mk (Kd.C_of_reads (h1 := fun _ => rfl) (hA60 _ (Kd.reads_of_C HR0.out)))
                                have HC156 := Aside0.mk hC60
                                clear hA60 hC60 hi060 hsz60
                                go_wp2_with (first | ((with_reducible refine gate_callee (f := 27) rfl ?_); refine goesL_ (some 96) rfl rfl Try.func27 (by kernel_rfl) rfl #[.slice A60 (l0.drop (x8_3 : Int).toNat).length (c0 - x8_3.toNat), .int .i64 (wrap64 (a1 - 1))] rfl (by (try simp only [List.map_toArray, List.map_cons, List.map_nil]); first | done | (rw [show (l0.drop (x8_3 : Int).toNat).length = (l0.length - x8_3.toNat) from List.length_drop] <;> rfl) | rfl | (simp only [List.length_drop, List.length_take]; rfl)) ?_; (with_reducible refine (ih k3 (by have := HJ2.out; have := HJ10.out; have := HK3.out; omega) _ _ (l0.drop (x8_3 : Int).toNat) (wrap64 (a1 - 1)) t157 t158 t159 t160 t163 _ ?side1 ?side2 A58.out).mono ?_); (case side1 => repeat (first | exact (Kd.C_below HR156.out HB.out) | (with_reducible refine Kd.C_alloc ?_ _) | (with_reducible refine Kd.C_drewN ?_ _) | (with_reducible refine Kd.C_drew ?_))); (case side2 => exact HC156.out); rintro e w61 ⟨v161, rfl, ho0, hb⟩; refine ⟨_, rfl, ?_⟩; have n0_ := Aside0.mk (Kd.R_elder' (by (with_reducible repeat (first | apply Kd.R_alloc | apply Kd.R_drewN | apply Kd.R_drew)); exact HO_152003.out) (Kd.R_base ho0) hb); have n1_ := Aside0.mk (Kd.R_lower (Kd.R_newB (Kd.R_newB (Kd.R_new' ho0 (Kd.R_lt (by (with_reducible repeat (first | apply Kd.R_alloc | apply Kd.R_drewN | apply Kd.R_drew)); exact HO_152003.out))) (g := gb148) (o := .cells #[.int .i64 x149000_3, .int .i64 x149001_3, .string x149002_3, .slice none 0 0] 24 (0, 0)) (by (with_reducible repeat (first | refine blk_drewN ?_ _ | refine blk_drew ?_ | refine blk_alloc ?_ _)); exact BK148.out)) (g := gb151) (o := .cells #[.int .i64 (wrap64 (Int.tdiv (wrap64 (rd l0 0)) 64)), .int .i64 0, .string (⟨#[]⟩ : ByteArray), u152003] 24 (0, 0)) (by (with_reducible repeat (first | refine blk_drewN ?_ _ | refine blk_drew ?_ | refine blk_alloc ?_ _)); exact BK151.out)) (below_size (by repeat (first | (with_reducible first | exact HB.out | apply below_alloc | apply pw_below_drewN | apply below_drew1 | refine below_set ?_ GE148.out | refine below_set ?_ GE151.out) | exact HB.out)))); have n2_ := Aside0.mk (blk_below (g := gb148) (o := .cells #[.int .i64 x149000_3, .int .i64 x149001_3, .string x149002_3, .slice none 0 0] 24 (0, 0)) (by (with_reducible repeat (first | refine blk_drewN ?_ _ | refine blk_drew ?_ | refine blk_alloc ?_ _)); exact BK148.out) hb); have n3_ := Aside0.mk (blk_below (g := gb151) (o := .cells #[.int .i64 (wrap64 (Int.tdiv (wrap64 (rd l0 0)) 64)), .int .i64 0, .string (⟨#[]⟩ : ByteArray), u152003] 24 (0, 0)) (by (with_reducible repeat (first | refine blk_drewN ?_ _ | refine blk_drew ?_ | refine blk_alloc ?_ _)); exact BK151.out) hb); have n4_ := Aside0.mk (below_step (by repeat (first | (with_reducible first | exact HB.out | apply below_alloc | apply pw_below_drewN | apply below_drew1 | refine below_set ?_ GE148.out | refine below_set ?_ GE151.out) | exact HB.out)) hb); clear HO_152003; clear BK148; clear BK151; clear HB; have HO_152003 := n0_; have HO162 := n1_; have BK148 := n2_; have BK151 := n3_; have HB := n4_; clear n0_ n1_ n2_ n3_ n4_; (try clear hb); (try clear hb2); (try clear hk); (try clear hi); (try clear ho0)) | ((with_reducible refine gate_dst (N := 12) rfl ?_); refine box_event ?hg (N := 12) ?hd (cs := #[.int .i64 0, .int .i64 0, .string (⟨#[]⟩ : ByteArray), .slice none 0 0]) (t := 24) ?hr ?_; (case hd => rfl); (case hg => rfl); (case hr => first | (go_simp; done) | (go_simp; rfl)); intro gb164 hg w62 hbox hb; have n0_ := Aside0.mk (Kd.R_below (Kd.R_elderB (by (with_reducible repeat (first | apply Kd.R_alloc | apply Kd.R_drewN | apply Kd.R_drew)); exact HO_152003.out) gb164 (Nat.le_of_eq hg.symm)) hb); have n1_ := Aside0.mk (Kd.R_below (Kd.R_elderB (by (with_reducible repeat (first | apply Kd.R_alloc | apply Kd.R_drewN | apply Kd.R_drew)); exact HO162.out) gb164 (Nat.le_of_eq hg.symm)) hb); have n2_ := Aside0.mk (blk_below (g := gb148) (o := .cells #[.int .i64 x149000_3, .int .i64 x149001_3, .string x149002_3, .slice none 0 0] 24 (0, 0)) (by (with_reducible repeat (first | refine blk_drewN ?_ _ | refine blk_drew ?_ | refine blk_alloc ?_ _)); exact BK148.out) hb); have n3_ := Aside0.mk (blk_below (g := gb151) (o := .cells #[.int .i64 (wrap64 (Int.tdiv (wrap64 (rd l0 0)) 64)), .int .i64 0, .string (⟨#[]⟩ : ByteArray), u152003] 24 (0, 0)) (by (with_reducible repeat (first | refine blk_drewN ?_ _ | refine blk_drew ?_ | refine blk_alloc ?_ _)); exact BK151.out) hb); have n4_ := Aside0.mk (below_step (by repeat (first | (with_reducible first | exact HB.out | apply below_alloc | apply pw_below_drewN | apply below_drew1 | refine below_set ?_ GE148.out | refine below_set ?_ GE151.out) | exact HB.out)) hb); have n5_ := Aside0.mk (hbox); have n6_ := Aside0.mk ((by rw [hg]; exact (below_size (by repeat (first | (with_reducible first | exact HB.out | apply below_alloc | apply pw_below_drewN | apply below_drew1 | refine below_set ?_ GE148.out | refine below_set ?_ GE151.out) | exact HB.out))) : w.heap.size ≤ gb164)); have n7_ := Aside0.mk ((by rw [hg]; exact (below_size (by repeat (first | (with_reducible first | exact HB.out | apply below_alloc | apply pw_below_drewN | apply below_drew1 | refine below_set ?_ GE148.out | refine below_set ?_ GE151.out) | exact HB.out))) : w.heap.size ≤ gb164)); have n8_ := Aside0.mk ((by rw [hg]; exact Nat.ne_of_lt (blk_lt (g := gb148) (o := .cells #[.int .i64 x149000_3, .int .i64 x149001_3, .string x149002_3, .slice none 0 0] 24 (0, 0)) (by (with_reducible repeat (first | refine blk_drewN ?_ _ | refine blk_drew ?_ | refine blk_alloc ?_ _)); exact BK148.out)) : gb148 ≠ gb164)); have n9_ := Aside0.mk ((by rw [hg]; exact Nat.ne_of_gt (blk_lt (g := gb148) (o := .cells #[.int .i64 x149000_3, .int .i64 x149001_3, .string x149002_3, .slice none 0 0] 24 (0, 0)) (by (with_reducible repeat (first | refine blk_drewN ?_ _ | refine blk_drew ?_ | refine blk_alloc ?_ _)); exact BK148.out)) : gb164 ≠ gb148)); have n10_ := Aside0.mk ((by rw [hg]; exact Nat.ne_of_lt (blk_lt (g := gb151) (o := .cells #[.int .i64 (wrap64 (Int.tdiv (wrap64 (rd l0 0)) 64)), .int .i64 0, .string (⟨#[]⟩ : ByteArray), u152003] 24 (0, 0)) (by (with_reducible repeat (first | refine blk_drewN ?_ _ | refine blk_drew ?_ | refine blk_alloc ?_ _)); exact BK151.out)) : gb151 ≠ gb164)); have n11_ := Aside0.mk ((by rw [hg]; exact Nat.ne_of_gt (blk_lt (g := gb151) (o := .cells #[.int .i64 (wrap64 (Int.tdiv (wrap64 (rd l0 0)) 64)), .int .i64 0, .string (⟨#[]⟩ : ByteArray), u152003] 24 (0, 0)) (by (with_reducible repeat (first | refine blk_drewN ?_ _ | refine blk_drew ?_ | refine blk_alloc ?_ _)); exact BK151.out)) : gb164 ≠ gb151)); clear HO_152003; clear HO162; clear BK148; clear BK151; clear HB; have HO_152003 := n0_; have HO162 := n1_; have BK148 := n2_; have BK151 := n3_; have HB := n4_; have BK164 := n5_; have GW164 := n6_; have GE164 := n7_; have NB148_164 := n8_; have NB164_148 := n9_; have NB151_164 := n10_; have NB164_151 := n11_; clear n0_ n1_ n2_ n3_ n4_ n5_ n6_ n7_ n8_ n9_ n10_ n11_; clear hb hbox hg; have hnb63 := NB164_148.out; have hnc63 := NB148_164.out; have hnb64 := NB164_151.out; have hnc64 := NB151_164.out; have hcz65_0 : w62.cell? ⟨gb164, 0, none⟩ = some (.int .i64 0) := (blk_cell BK164.out 0).trans rfl; have hcz65_1 : w62.cell? ⟨gb164, 1, none⟩ = some (.int .i64 0) := (blk_cell BK164.out 1).trans rfl; have hcz65_2 : w62.cell? ⟨gb164, 2, none⟩ = some (.string (⟨#[]⟩ : ByteArray)) := (blk_cell BK164.out 2).trans rfl; have hcz65_3 : w62.cell? ⟨gb164, 3, none⟩ = some (.slice none 0 0) := (blk_cell BK164.out 3).trans rfl; have hfz65_0 := blk_frozen BK164.out 0; have hfz65_1 := blk_frozen BK164.out 1; have hfz65_2 := blk_frozen BK164.out 2; have hfz65_3 := blk_frozen BK164.out 3; obtain ⟨Ao66, co66, eo66⟩ := Kd.R_slice HO162.out; subst eo66; have hnb67 := NB148_151.out; have hnc67 := NB151_148.out; have hcz68_0 : w62.cell? ⟨gb148, 0, none⟩ = some (.int .i64 x149000_3) := (blk_cell BK148.out 0).trans rfl; have hcz68_1 : w62.cell? ⟨gb148, 1, none⟩ = some (.int .i64 x149001_3) := (blk_cell BK148.out 1).trans rfl; have hcz68_2 : w62.cell? ⟨gb148, 2, none⟩ = some (.string x149002_3) := (blk_cell BK148.out 2).trans rfl; have hcz68_3 : w62.cell? ⟨gb148, 3, none⟩ = some (.slice none 0 0) := (blk_cell BK148.out 3).trans rfl; have hfz68_0 := blk_frozen BK148.out 0; have hfz68_1 := blk_frozen BK148.out 1; have hfz68_2 := blk_frozen BK148.out 2; have hfz68_3 := blk_frozen BK148.out 3))
                                refine bodyPost_ret (results_ct rfl _ _ gb148 24 #[.int .i64 0, .int .i64 0, .string (⟨#[]⟩ : ByteArray), .slice none 0 0] (0, 0) _ rfl (by (with_reducible repeat (first | refine blk_drewN ?_ _ | refine blk_drew ?_ | refine blk_alloc ?_ _)); refine blk_put (cs := #[.int .i64 0, .int .i64 0, .string (⟨#[]⟩ : ByteArray), .slice none 0 0]) ?_ 3 _ rfl; (with_reducible repeat (first | refine blk_drewN ?_ _ | refine blk_drew ?_ | refine blk_alloc ?_ _)); refine blk_put (cs := #[.int .i64 0, .int .i64 0, .string x149002_3, .slice none 0 0]) ?_ 2 _ rfl; (with_reducible repeat (first | refine blk_drewN ?_ _ | refine blk_drew ?_ | refine blk_alloc ?_ _)); refine blk_put (cs := #[.int .i64 0, .int .i64 x149001_3, .string x149002_3, .slice none 0 0]) ?_ 1 _ rfl; (with_reducible repeat (first | refine blk_drewN ?_ _ | refine blk_drew ?_ | refine blk_alloc ?_ _)); refine blk_put (cs := #[.int .i64 x149000_3, .int .i64 x149001_3, .string x149002_3, .slice none 0 0]) ?_ 0 _ rfl; (with_reducible repeat (first | refine blk_drewN ?_ _ | refine blk_drew ?_ | refine blk_alloc ?_ _)); refine blk_far ?_ NB148_164.out _; (with_reducible repeat (first | refine blk_drewN ?_ _ | refine blk_drew ?_ | refine blk_alloc ?_ _)); refine blk_far ?_ NB148_164.out _; (with_reducible repeat (first | refine blk_drewN ?_ _ | refine blk_drew ?_ | refine blk_alloc ?_ _)); refine blk_far ?_ NB148_164.out _; (with_reducible repeat (first | refine blk_drewN ?_ _ | refine blk_drew ?_ | refine blk_alloc ?_ _)); refine blk_far ?_ NB148_164.out _; (with_reducible repeat (first | refine blk_drewN ?_ _ | refine blk_drew ?_ | refine blk_alloc ?_ _)); exact BK148.out) Try.underlying24 rfl (by kernel_rfl)) rfl ?_
                                exact ⟨_, by first | rfl | (simp [errW_none, errW_some] <;> rfl) | (simp [*, errW_none, errW_some] <;> rfl), by first | exact Kd.R_nil _ _ _ _ _ | exact Kd.N_nil _ _ _ _ _ | exact Kd.V_nil _ _ _ _ _ | exact Kd.Q_nil _ _ _ _ _ | exact Kd.S_nil _ _ _ _ _, by repeat (first | (with_reducible first | exact HB.out | apply below_alloc | apply pw_below_drewN | apply below_drew1 | refine below_set ?_ GE148.out | refine below_set ?_ GE151.out | refine below_set ?_ GE164.out) | exact HB.out)⟩
                              · rw [if_neg c59] at H
                                have c59b0 : (t163 == 0) = false := beq_eq_false_iff_ne.mpr c59
                                have c59b1 : (t163 != 0) = true := bne_iff_ne.mpr c59
                                by_cases c69 : x152003_3.length < 2513169434916
                                · rw [if_pos c69] at H
                                  have LMc69 := Aside0.mk c69
                                  clear c69
                                  obtain ⟨y165, hy165⟩ : ∃ y_ : List (S24), y_ = (x152003_3 ++ [(⟨t157, t158, t159, t160⟩ : S24)]) := ⟨_, rfl⟩
                                  replace H : (vinculumref03_Read.l1 k3 l0 a1 x7_10 (wrap64 (x8_3 + t163)) (wrap64 (x11_3 + 1)) (wrap64 (Int.tdiv (wrap64 (rd l0 0)) 64)) 0 (⟨#[]⟩ : ByteArray) y165) = some (r1, r2, r3, r4, r5) := by first | (rw [hy165]; with_reducible exact H) | (have H2_ := (Option.bind_some _ _).symm.trans H; rw [hy165]; with_reducible exact H2_) | (have H2_ := (Option.bind_some _ _).symm.trans H; with_reducible exact H2_) | with_reducible exact H | (rw [hy165]; exact H) | exact H
                                  have Ny165 := Aside0.mk hy165
                                  clear hy165
                                  have H' := Aside0.mk H
                                  clear H
                                  obtain ⟨i070, hi070, _, hsz70, _⟩ := info_parts info5
                                  obtain ⟨A70, hcut70, hA70, hC70⟩ := print_drop_of (P := Try.prog) (Value.int .u8) 0 31 5 .i64 Try.underlying31 hi070 hsz70 (some ad150) c0 l0 x8_3 (of_decide_eq_true (by first | (with_reducible assumption) | assumption)) (of_decide_eq_true (by first | (with_reducible assumption) | assumption)) HC0.out
                                  have HR156 := Aside0.mk (Kd.C_of_reads (h1 := fun _ => rfl) (hA70 _ (Kd.reads_of_C HR0.out)))
                                  have HC156 := Aside0.mk hC70
                                  clear hA70 hC70 hi070 hsz70
                                  go_wp2_with (first | ((with_reducible refine gate_callee (f := 27) rfl ?_); refine goesL_ (some 96) rfl rfl Try.func27 (by kernel_rfl) rfl #[.slice A70 (l0.drop (x8_3 : Int).toNat).length (c0 - x8_3.toNat), .int .i64 (wrap64 (a1 - 1))] rfl (by (try simp only [List.map_toArray, List.map_cons, List.map_nil]); first | done | (rw [show (l0.drop (x8_3 : Int).toNat).length = (l0.length - x8_3.toNat) from List.length_drop] <;> rfl) | rfl | (simp only [List.length_drop, List.length_take]; rfl)) ?_; (with_reducible refine (ih k3 (by have := HJ2.out; have := HJ10.out; have := HK3.out; omega) _ _ (l0.drop (x8_3 : Int).toNat) (wrap64 (a1 - 1)) t157 t158 t159 t160 t163 _ ?side1 ?side2 A58.out).mono ?_); (case side1 => repeat (first | exact (Kd.C_below HR156.out HB.out) | (with_reducible refine Kd.C_alloc ?_ _) | (with_reducible refine Kd.C_drewN ?_ _) | (with_reducible refine Kd.C_drew ?_))); (case side2 => exact HC156.out); rintro e w71 ⟨v161, rfl, ho0, hb⟩; refine ⟨_, rfl, ?_⟩; have n0_ := Aside0.mk (Kd.R_elder' (by (with_reducible repeat (first | apply Kd.R_alloc | apply Kd.R_drewN | apply Kd.R_drew)); exact HO_152003.out) (Kd.R_base ho0) hb); have n1_ := Aside0.mk (Kd.R_lower (Kd.R_newB (Kd.R_newB (Kd.R_new' ho0 (Kd.R_lt (by (with_reducible repeat (first | apply Kd.R_alloc | apply Kd.R_drewN | apply Kd.R_drew)); exact HO_152003.out))) (g := gb148) (o := .cells #[.int .i64 x149000_3, .int .i64 x149001_3, .string x149002_3, .slice none 0 0] 24 (0, 0)) (by (with_reducible repeat (first | refine blk_drewN ?_ _ | refine blk_drew ?_ | refine blk_alloc ?_ _)); exact BK148.out)) (g := gb151) (o := .cells #[.int .i64 (wrap64 (Int.tdiv (wrap64 (rd l0 0)) 64)), .int .i64 0, .string (⟨#[]⟩ : ByteArray), u152003] 24 (0, 0)) (by (with_reducible repeat (first | refine blk_drewN ?_ _ | refine blk_drew ?_ | refine blk_alloc ?_ _)); exact BK151.out)) (below_size (by repeat (first | (with_reducible first | exact HB.out | apply below_alloc | apply pw_below_drewN | apply below_drew1 | refine below_set ?_ GE148.out | refine below_set ?_ GE151.out) | exact HB.out)))); have n2_ := Aside0.mk (blk_below (g := gb148) (o := .cells #[.int .i64 x149000_3, .int .i64 x149001_3, .string x149002_3, .slice none 0 0] 24 (0, 0)) (by (with_reducible repeat (first | refine blk_drewN ?_ _ | refine blk_drew ?_ | refine blk_alloc ?_ _)); exact BK148.out) hb); have n3_ := Aside0.mk (blk_below (g := gb151) (o := .cells #[.int .i64 (wrap64 (Int.tdiv (wrap64 (rd l0 0)) 64)), .int .i64 0, .string (⟨#[]⟩ : ByteArray), u152003] 24 (0, 0)) (by (with_reducible repeat (first | refine blk_drewN ?_ _ | refine blk_drew ?_ | refine blk_alloc ?_ _)); exact BK151.out) hb); have n4_ := Aside0.mk (below_step (by repeat (first | (with_reducible first | exact HB.out | apply below_alloc | apply pw_below_drewN | apply below_drew1 | refine below_set ?_ GE148.out | refine below_set ?_ GE151.out) | exact HB.out)) hb); clear HO_152003; clear BK148; clear BK151; clear HB; have HO_152003 := n0_; have HO162 := n1_; have BK148 := n2_; have BK151 := n3_; have HB := n4_; clear n0_ n1_ n2_ n3_ n4_; (try clear hb); (try clear hb2); (try clear hk); (try clear hi); (try clear ho0)) | ((with_reducible refine gate_dst (N := 12) rfl ?_); refine box_event ?hg (N := 12) ?hd (cs := #[.int .i64 0, .int .i64 0, .string (⟨#[]⟩ : ByteArray), .slice none 0 0]) (t := 24) ?hr ?_; (case hd => rfl); (case hg => rfl); (case hr => first | (go_simp; done) | (go_simp; rfl)); intro gb164 hg w72 hbox hb; have n0_ := Aside0.mk (Kd.R_below (Kd.R_elderB (by (with_reducible repeat (first | apply Kd.R_alloc | apply Kd.R_drewN | apply Kd.R_drew)); exact HO_152003.out) gb164 (Nat.le_of_eq hg.symm)) hb); have n1_ := Aside0.mk (Kd.R_below (Kd.R_elderB (by (with_reducible repeat (first | apply Kd.R_alloc | apply Kd.R_drewN | apply Kd.R_drew)); exact HO162.out) gb164 (Nat.le_of_eq hg.symm)) hb); have n2_ := Aside0.mk (blk_below (g := gb148) (o := .cells #[.int .i64 x149000_3, .int .i64 x149001_3, .string x149002_3, .slice none 0 0] 24 (0, 0)) (by (with_reducible repeat (first | refine blk_drewN ?_ _ | refine blk_drew ?_ | refine blk_alloc ?_ _)); exact BK148.out) hb); have n3_ := Aside0.mk (blk_below (g := gb151) (o := .cells #[.int .i64 (wrap64 (Int.tdiv (wrap64 (rd l0 0)) 64)), .int .i64 0, .string (⟨#[]⟩ : ByteArray), u152003] 24 (0, 0)) (by (with_reducible repeat (first | refine blk_drewN ?_ _ | refine blk_drew ?_ | refine blk_alloc ?_ _)); exact BK151.out) hb); have n4_ := Aside0.mk (below_step (by repeat (first | (with_reducible first | exact HB.out | apply below_alloc | apply pw_below_drewN | apply below_drew1 | refine below_set ?_ GE148.out | refine below_set ?_ GE151.out) | exact HB.out)) hb); have n5_ := Aside0.mk (hbox); have n6_ := Aside0.mk ((by rw [hg]; exact (below_size (by repeat (first | (with_reducible first | exact HB.out | apply below_alloc | apply pw_below_drewN | apply below_drew1 | refine below_set ?_ GE148.out | refine below_set ?_ GE151.out) | exact HB.out))) : w.heap.size ≤ gb164)); have n7_ := Aside0.mk ((by rw [hg]; exact (below_size (by repeat (first | (with_reducible first | exact HB.out | apply below_alloc | apply pw_below_drewN | apply below_drew1 | refine below_set ?_ GE148.out | refine below_set ?_ GE151.out) | exact HB.out))) : w.heap.size ≤ gb164)); have n8_ := Aside0.mk ((by rw [hg]; exact Nat.ne_of_lt (blk_lt (g := gb148) (o := .cells #[.int .i64 x149000_3, .int .i64 x149001_3, .string x149002_3, .slice none 0 0] 24 (0, 0)) (by (with_reducible repeat (first | refine blk_drewN ?_ _ | refine blk_drew ?_ | refine blk_alloc ?_ _)); exact BK148.out)) : gb148 ≠ gb164)); have n9_ := Aside0.mk ((by rw [hg]; exact Nat.ne_of_gt (blk_lt (g := gb148) (o := .cells #[.int .i64 x149000_3, .int .i64 x149001_3, .string x149002_3, .slice none 0 0] 24 (0, 0)) (by (with_reducible repeat (first | refine blk_drewN ?_ _ | refine blk_drew ?_ | refine blk_alloc ?_ _)); exact BK148.out)) : gb164 ≠ gb148)); have n10_ := Aside0.mk ((by rw [hg]; exact Nat.ne_of_lt (blk_lt (g := gb151) (o := .cells #[.int .i64 (wrap64 (Int.tdiv (wrap64 (rd l0 0)) 64)), .int .i64 0, .string (⟨#[]⟩ : ByteArray), u152003] 24 (0, 0)) (by (with_reducible repeat (first | refine blk_drewN ?_ _ | refine blk_drew ?_ | refine blk_alloc ?_ _)); exact BK151.out)) : gb151 ≠ gb164)); have n11_ := Aside0.mk ((by rw [hg]; exact Nat.ne_of_gt (blk_lt (g := gb151) (o := .cells #[.int .i64 (wrap64 (Int.tdiv (wrap64 (rd l0 0)) 64)), .int .i64 0, .string (⟨#[]⟩ : ByteArray), u152003] 24 (0, 0)) (by (with_reducible repeat (first | refine blk_drewN ?_ _ | refine blk_drew ?_ | refine blk_alloc ?_ _)); exact BK151.out)) : gb164 ≠ gb151)); clear HO_152003; clear HO162; clear BK148; clear BK151; clear HB; have HO_152003 := n0_; have HO162 := n1_; have BK148 := n2_; have BK151 := n3_; have HB := n4_; have BK164 := n5_; have GW164 := n6_; have GE164 := n7_; have NB148_164 := n8_; have NB164_148 := n9_; have NB151_164 := n10_; have NB164_151 := n11_; clear n0_ n1_ n2_ n3_ n4_ n5_ n6_ n7_ n8_ n9_ n10_ n11_; clear hb hbox hg; have hnb73 := NB164_148.out; have hnc73 := NB148_164.out; have hnb74 := NB164_151.out; have hnc74 := NB151_164.out; have hcz75_0 : w72.cell? ⟨gb164, 0, none⟩ = some (.int .i64 0) := (blk_cell BK164.out 0).trans rfl; have hcz75_1 : w72.cell? ⟨gb164, 1, none⟩ = some (.int .i64 0) := (blk_cell BK164.out 1).trans rfl; have hcz75_2 : w72.cell? ⟨gb164, 2, none⟩ = some (.string (⟨#[]⟩ : ByteArray)) := (blk_cell BK164.out 2).trans rfl; have hcz75_3 : w72.cell? ⟨gb164, 3, none⟩ = some (.slice none 0 0) := (blk_cell BK164.out 3).trans rfl; have hfz75_0 := blk_frozen BK164.out 0; have hfz75_1 := blk_frozen BK164.out 1; have hfz75_2 := blk_frozen BK164.out 2; have hfz75_3 := blk_frozen BK164.out 3; obtain ⟨Ao76, co76, eo76⟩ := Kd.R_slice HO162.out; subst eo76) | ((with_reducible refine gate_store (t := 24) (p := 12) rfl ?_); refine store_event (t := 24) (p := 12) (v := ?vo_w77) (w1 := ((((w72.setCell ⟨gb164, 0, none⟩ (.int .i64 t157)).setCell ⟨gb164, 1, none⟩ (.int .i64 t158)).setCell ⟨gb164, 2, none⟩ (.string t159)).setCell ⟨gb164, 3, none⟩ (.slice Ao76 t160.length co76))) ?hg ?ho ?hn ?hr ?_; (case ho => rfl); (case hg => rfl); (case hn => rfl); (case hr => first | (go_simp; done) | (go_simp; rfl)); intro w77 hw; have n0_ : Aside0 (Kd.R k24 24 w77 w.heap.size (fun k_ => some k_ ≠ (.slice Ao76 t160.length co76 : Value).ownBlock ∧ k_ ≠ gb148 ∧ k_ ≠ gb151 ∧ k_ ≠ gb164) u152003 x152003_3) := ⟨(by rw [hw]; exact (by (with_reducible repeat (first | apply Kd.R_alloc | apply Kd.R_drewN | apply Kd.R_drew)); exact Kd.R_mono (Kd.R_far (p := ⟨gb164, 3, none⟩) (Kd.R_far (p := ⟨gb164, 2, none⟩) (Kd.R_far (p := ⟨gb164, 1, none⟩) (Kd.R_far (p := ⟨gb164, 0, none⟩) (Kd.R_mono HO_152003.out (fun k_ hk => (⟨hk, hk.2⟩ : _ ∧ k_ ≠ gb164))) (fun _ hk => hk.2) (.int .i64 t157)) (fun _ hk => hk.2) (.int .i64 t158)) (fun _ hk => hk.2) (.string t159)) (fun _ hk => hk.2) (.slice Ao76 t160.length co76)) (fun _ hk => ⟨hk.1.1.2, ⟨hk.1.1.1.1, ⟨hk.1.1.1.2, hk.1.2⟩⟩⟩)))⟩; have n1_ : Aside0 (Kd.R k24 24 w77 w.heap.size (fun k_ => some k_ ≠ (u152003 : Value).ownBlock ∧ k_ ≠ gb148 ∧ k_ ≠ gb151 ∧ k_ ≠ gb164) (.slice Ao76 t160.length co76) t160) := ⟨(by rw [hw]; exact (by (with_reducible repeat (first | apply Kd.R_alloc | apply Kd.R_drewN | apply Kd.R_drew)); exact Kd.R_mono (Kd.R_far (p := ⟨gb164, 3, none⟩) (Kd.R_far (p := ⟨gb164, 2, none⟩) (Kd.R_far (p := ⟨gb164, 1, none⟩) (Kd.R_far (p := ⟨gb164, 0, none⟩) (Kd.R_mono HO162.out (fun k_ hk => (⟨hk, hk.2⟩ : _ ∧ k_ ≠ gb164))) (fun _ hk => hk.2) (.int .i64 t157)) (fun _ hk => hk.2) (.int .i64 t158)) (fun _ hk => hk.2) (.string t159)) (fun _ hk => hk.2) (.slice Ao76 t160.length co76)) (fun _ hk => ⟨hk.1.1.1.1.2, ⟨hk.1.1.1.2, ⟨hk.1.1.2, hk.1.2⟩⟩⟩)))⟩; have n2_ : Aside0 (w77.heap[gb148]? = some (.cells #[.int .i64 x149000_3, .int .i64 x149001_3, .string x149002_3, .slice none 0 0] 24 (0, 0))) := ⟨(by rw [hw]; exact (by (with_reducible repeat (first | refine blk_drewN ?_ _ | refine blk_drew ?_ | refine blk_alloc ?_ _)); refine blk_far ?_ NB148_164.out _; (with_reducible repeat (first | refine blk_drewN ?_ _ | refine blk_drew ?_ | refine blk_alloc ?_ _)); refine blk_far ?_ NB148_164.out _; (with_reducible repeat (first | refine blk_drewN ?_ _ | refine blk_drew ?_ | refine blk_alloc ?_ _)); refine blk_far ?_ NB148_164.out _; (with_reducible repeat (first | refine blk_drewN ?_ _ | refine blk_drew ?_ | refine blk_alloc ?_ _)); refine blk_far ?_ NB148_164.out _; (with_reducible repeat (first | refine blk_drewN ?_ _ | refine blk_drew ?_ | refine blk_alloc ?_ _)); exact BK148.out))⟩; have n3_ : Aside0 (w77.heap[gb151]? = some (.cells #[.int .i64 (wrap64 (Int.tdiv (wrap64 (rd l0 0)) 64)), .int .i64 0, .string (⟨#[]⟩ : ByteArray), u152003] 24 (0, 0))) := ⟨(by rw [hw]; exact (by (with_reducible repeat (first | refine blk_drewN ?_ _ | refine blk_drew ?_ | refine blk_alloc ?_ _)); refine blk_far ?_ NB151_164.out _; (with_reducible repeat (first | refine blk_drewN ?_ _ | refine blk_drew ?_ | refine blk_alloc ?_ _)); refine blk_far ?_ NB151_164.out _; (with_reducible repeat (first | refine blk_drewN ?_ _ | refine blk_drew ?_ | refine blk_alloc ?_ _)); refine blk_far ?_ NB151_164.out _; (with_reducible repeat (first | refine blk_drewN ?_ _ | refine blk_drew ?_ | refine blk_alloc ?_ _)); refine blk_far ?_ NB151_164.out _; (with_reducible repeat (first | refine blk_drewN ?_ _ | refine blk_drew ?_ | refine blk_alloc ?_ _)); exact BK151.out))⟩; have n4_ : Aside0 (w77.heap[gb164]? = some (.cells #[.int .i64 t157, .int .i64 t158, .string t159, .slice Ao76 t160.length co76] 24 (0, 0))) := ⟨(by rw [hw]; exact (by (with_reducible repeat (first | refine blk_drewN ?_ _ | refine blk_drew ?_ | refine blk_alloc ?_ _)); refine blk_put (cs := #[.int .i64 t157, .int .i64 t158, .string t159, .slice none 0 0]) ?_ 3 _ rfl; (with_reducible repeat (first | refine blk_drewN ?_ _ | refine blk_drew ?_ | refine blk_alloc ?_ _)); refine blk_put (cs := #[.int .i64 t157, .int .i64 t158, .string (⟨#[]⟩ : ByteArray), .slice none 0 0]) ?_ 2 _ rfl; (with_reducible repeat (first | refine blk_drewN ?_ _ | refine blk_drew ?_ | refine blk_alloc ?_ _)); refine blk_put (cs := #[.int .i64 t157, .int .i64 0, .string (⟨#[]⟩ : ByteArray), .slice none 0 0]) ?_ 1 _ rfl; (with_reducible repeat (first | refine blk_drewN ?_ _ | refine blk_drew ?_ | refine blk_alloc ?_ _)); refine blk_put (cs := #[.int .i64 0, .int .i64 0, .string (⟨#[]⟩ : ByteArray), .slice none 0 0]) ?_ 0 _ rfl; (with_reducible repeat (first | refine blk_drewN ?_ _ | refine blk_drew ?_ | refine blk_alloc ?_ _)); exact BK164.out))⟩; have n5_ : Aside0 (Below w.heap.size w w77) := ⟨(by rw [hw]; exact (by repeat (first | (with_reducible first | exact HB.out | apply below_alloc | apply pw_below_drewN | apply below_drew1 | refine below_set ?_ GE148.out | refine below_set ?_ GE151.out | refine below_set ?_ GE164.out) | exact HB.out)))⟩; clear hw; clear HO_152003; clear HO162; clear BK148; clear BK151; clear BK164; clear HB; have HO_152003 := n0_; have HO162 := n1_; have BK148 := n2_; have BK151 := n3_; have BK164 := n4_; have HB := n5_; clear n0_ n1_ n2_ n3_ n4_ n5_; have hnb78 := NB151_148.out; have hnc78 := NB148_151.out; have hcz79_0 : w77.cell? ⟨gb151, 0, none⟩ = some (.int .i64 (wrap64 (Int.tdiv (wrap64 (rd l0 0)) 64))) := (blk_cell BK151.out 0).trans rfl; have hcz79_1 : w77.cell? ⟨gb151, 1, none⟩ = some (.int .i64 0) := (blk_cell BK151.out 1).trans rfl; have hcz79_2 : w77.cell? ⟨gb151, 2, none⟩ = some (.string (⟨#[]⟩ : ByteArray)) := (blk_cell BK151.out 2).trans rfl; have hcz79_3 : w77.cell? ⟨gb151, 3, none⟩ = some (u152003) := (blk_cell BK151.out 3).trans rfl; have hfz79_0 := blk_frozen BK151.out 0; have hfz79_1 := blk_frozen BK151.out 1; have hfz79_2 := blk_frozen BK151.out 2; have hfz79_3 := blk_frozen BK151.out 3; have hcz80_0 : w77.cell? ⟨gb164, 0, none⟩ = some (.int .i64 t157) := (blk_cell BK164.out 0).trans rfl; have hcz80_1 : w77.cell? ⟨gb164, 1, none⟩ = some (.int .i64 t158) := (blk_cell BK164.out 1).trans rfl; have hcz80_2 : w77.cell? ⟨gb164, 2, none⟩ = some (.string t159) := (blk_cell BK164.out 2).trans rfl; have hcz80_3 : w77.cell? ⟨gb164, 3, none⟩ = some (.slice Ao76 t160.length co76) := (blk_cell BK164.out 3).trans rfl; have hfz80_0 := blk_frozen BK164.out 0; have hfz80_1 := blk_frozen BK164.out 1; have hfz80_2 := blk_frozen BK164.out 2; have hfz80_3 := blk_frozen BK164.out 3) | ((with_reducible refine gate_builtin (b := .append) (xs := #[.tmp 103, .tmp 105]) rfl ?_); at_builtin; refine Kd.R_append k24 (w0 := w) w.heap.size rfl (.tmp 103) (.tmp 105) 22 24 (.agg #[(.int .i64 0), (.int .i64 0), (.string ⟨#[]⟩), (.slice none 0 0)]) 56 rfl Try.underlying22 info24 rfl (by decide) (by omega) u152003 x152003_3 (⟨t157, t158, t159, t160⟩ : S24) [.int .i64 t157, .int .i64 t158, .string t159, .slice Ao76 t160.length co76] (fun k_ => k_ ≠ gb148 ∧ k_ ≠ gb151 ∧ k_ ≠ gb164) (fun k_ => ((fun k_ => k_ ≠ gb148 ∧ k_ ≠ gb151 ∧ k_ ≠ gb164)) k_ ∧ some k_ ≠ (u152003 : Value).ownBlock) rfl rfl ?aP (fun _ hk => hk) ?aF ?aO ?aB ?aS ?aL ?_; (case aP => exact k24_mkM _ _ _ (⟨t157, t158, t159, t160⟩ : S24) (Kd.R_mono (HO162.out) (fun k_ hk => ⟨⟨hk.2.1, ⟨hk.2.2.1, hk.2.2.2⟩⟩, hk.1⟩))); (case aB => exact (by repeat (first | (with_reducible first | exact HB.out | apply below_alloc | apply pw_below_drewN | apply below_drew1 | refine below_set ?_ GE148.out | refine below_set ?_ GE151.out | refine below_set ?_ GE164.out) | exact HB.out))); (case aF => exact (fun k_ hk => ⟨Kd.freshB (g := gb148) (o := .cells #[.int .i64 x149000_3, .int .i64 x149001_3, .string x149002_3, .slice none 0 0] 24 (0, 0)) (by (with_reducible repeat (first | refine blk_drewN ?_ _ | refine blk_drew ?_ | refine blk_alloc ?_ _)); exact BK148.out) k_ hk, Kd.freshB (g := gb151) (o := .cells #[.int .i64 (wrap64 (Int.tdiv (wrap64 (rd l0 0)) 64)), .int .i64 0, .string (⟨#[]⟩ : ByteArray), u152003] 24 (0, 0)) (by (with_reducible repeat (first | refine blk_drewN ?_ _ | refine blk_drew ?_ | refine blk_alloc ?_ _)); exact BK151.out) k_ hk, Kd.freshB (g := gb164) (o := .cells #[.int .i64 t157, .int .i64 t158, .string t159, .slice Ao76 t160.length co76] 24 (0, 0)) (by (with_reducible repeat (first | refine blk_drewN ?_ _ | refine blk_drew ?_ | refine blk_alloc ?_ _)); exact BK164.out) k_ hk⟩)); (case aO => exact (by (with_reducible repeat (first | apply Kd.R_alloc | apply Kd.R_drewN | apply Kd.R_drew)); exact Kd.R_mono HO_152003.out (fun _ hk => ⟨hk.2.1, ⟨hk.2.2.1, hk.2.2.2⟩⟩))); (case aS => exact (below_size (by repeat (first | (with_reducible first | exact HB.out | apply below_alloc | apply pw_below_drewN | apply below_drew1 | refine below_set ?_ GE148.out | refine below_set ?_ GE151.out | refine below_set ?_ GE164.out) | exact HB.out)))); (case aL => have := LMc69.out; omega); intro v166 w81 ho hb hg hat; rw [← Ny165.out] at ho; have n0_ := Aside0.mk (blk_grown (g := gb148) (o := .cells #[.int .i64 x149000_3, .int .i64 x149001_3, .string x149002_3, .slice none 0 0] 24 (0, 0)) (by (with_reducible repeat (first | refine blk_drewN ?_ _ | refine blk_drew ?_ | refine blk_alloc ?_ _)); exact BK148.out) hg (Kd.R_away HO_152003.out (fun _ hk => hk.2.1))); have n1_ := Aside0.mk (blk_grown (g := gb151) (o := .cells #[.int .i64 (wrap64 (Int.tdiv (wrap64 (rd l0 0)) 64)), .int .i64 0, .string (⟨#[]⟩ : ByteArray), u152003] 24 (0, 0)) (by (with_reducible repeat (first | refine blk_drewN ?_ _ | refine blk_drew ?_ | refine blk_alloc ?_ _)); exact BK151.out) hg (Kd.R_away HO_152003.out (fun _ hk => hk.2.2.1))); have n2_ := Aside0.mk (blk_grown (g := gb164) (o := .cells #[.int .i64 t157, .int .i64 t158, .string t159, .slice Ao76 t160.length co76] 24 (0, 0)) (by (with_reducible repeat (first | refine blk_drewN ?_ _ | refine blk_drew ?_ | refine blk_alloc ?_ _)); exact BK164.out) hg (Kd.R_away HO_152003.out (fun _ hk => hk.2.2.2))); have n3_ := Aside0.mk (hb); have n4_ := Aside0.mk (ho); clear BK148; clear BK151; clear BK164; clear HB; clear HO_152003; clear HO162; have BK148 := n0_; have BK151 := n1_; have BK164 := n2_; have HB := n3_; have HO167 := n4_; clear n0_ n1_ n2_ n3_ n4_; clear ho hb hg hat; obtain ⟨Ao82, co82, eo82⟩ := Kd.R_slice HO167.out; subst eo82; have hcz83_0 : w81.cell? ⟨gb151, 0, none⟩ = some (.int .i64 (wrap64 (Int.tdiv (wrap64 (rd l0 0)) 64))) := (blk_cell BK151.out 0).trans rfl; have hcz83_1 : w81.cell? ⟨gb151, 1, none⟩ = some (.int .i64 0) := (blk_cell BK151.out 1).trans rfl; have hcz83_2 : w81.cell? ⟨gb151, 2, none⟩ = some (.string (⟨#[]⟩ : ByteArray)) := (blk_cell BK151.out 2).trans rfl; have hcz83_3 : w81.cell? ⟨gb151, 3, none⟩ = some (u152003) := (blk_cell BK151.out 3).trans rfl; have hfz83_0 := blk_frozen BK151.out 0; have hfz83_1 := blk_frozen BK151.out 1; have hfz83_2 := blk_frozen BK151.out 2; have hfz83_3 := blk_frozen BK151.out 3))
                                  go_roundg k3
                                  case measure => have := HJ2.out; have := HJ10.out; have := HK3.out; omega
                                  case rel => exact ⟨(wrap64 (x8_3 + t163)), (wrap64 (x11_3 + 1)), (x149000_3), (x149001_3), (x149002_3), (y165), (.slice Ao82 y165.length co82), (by first | rfl | (simp; done) | (simp [*]; done) | (simp [ne_nil_bool]; done)), (by first | rfl | (simp; done) | (simp [*]; done) | (simp [ne_nil_bool]; done)), H', ⟨by have := HJ2.out; have := HJ10.out; have := HK3.out; omega⟩, ⟨by (with_reducible repeat (first | apply Kd.R_alloc | apply Kd.R_drewN | apply Kd.R_drew)); exact Kd.R_mono (Kd.R_far (p := ⟨gb151, 3, none⟩) (Kd.R_mono HO167.out (fun k_ hk => (⟨hk, hk.2.1⟩ : _ ∧ k_ ≠ gb151))) (fun _ hk => hk.2) (.slice Ao82 y165.length co82)) (fun _ hk => ⟨hk.1.1, hk.1.2.1⟩)⟩, ⟨by (with_reducible repeat (first | refine blk_drewN ?_ _ | refine blk_drew ?_ | refine blk_alloc ?_ _)); refine blk_far ?_ NB148_151.out _; (with_reducible repeat (first | refine blk_drewN ?_ _ | refine blk_drew ?_ | refine blk_alloc ?_ _)); exact BK148.out⟩, ⟨by (with_reducible repeat (first | refine blk_drewN ?_ _ | refine blk_drew ?_ | refine blk_alloc ?_ _)); refine blk_put (cs := #[.int .i64 (wrap64 (Int.tdiv (wrap64 (rd l0 0)) 64)), .int .i64 0, .string (⟨#[]⟩ : ByteArray), u152003]) ?_ 3 _ rfl; (with_reducible repeat (first | refine blk_drewN ?_ _ | refine blk_drew ?_ | refine blk_alloc ?_ _)); exact BK151.out⟩, ⟨by repeat (first | (with_reducible first | exact HB.out | apply below_alloc | apply pw_below_drewN | apply below_drew1 | refine below_set ?_ GE148.out | refine below_set ?_ GE151.out | refine below_set ?_ GE164.out) | exact HB.out)⟩⟩
                                · rw [if_neg c69] at H
                                  exact absurd H (by simp)
                            · rw [if_neg c57] at H
                              exact absurd H (by simp)
                          · rw [if_neg c56] at H
                            exact absurd H (by simp)
                        · rw [if_neg c55] at H
                          have c55b0 : decide (x11_3 < (wrap64 (x7_10))) = false := decide_eq_false c55
                          clear c55
                          simp only [Option.some.injEq, Prod.mk.injEq] at H
                          obtain ⟨rfl, rfl, rfl, rfl, rfl⟩ := H
                          have hnb84 := NB151_148.out
                          have hnc84 := NB148_151.out
                          have hcz85_0 : wr.cell? ⟨gb151, 0, none⟩ = some (.int .i64 (wrap64 (Int.tdiv (wrap64 (rd l0 0)) 64))) := (blk_cell BK151.out 0).trans rfl
                          have hcz85_1 : wr.cell? ⟨gb151, 1, none⟩ = some (.int .i64 0) := (blk_cell BK151.out 1).trans rfl
                          have hcz85_2 : wr.cell? ⟨gb151, 2, none⟩ = some (.string (⟨#[]⟩ : ByteArray)) := (blk_cell BK151.out 2).trans rfl
                          have hcz85_3 : wr.cell? ⟨gb151, 3, none⟩ = some (u152003) := (blk_cell BK151.out 3).trans rfl
                          have hfz85_0 := blk_frozen BK151.out 0
                          have hfz85_1 := blk_frozen BK151.out 1
                          have hfz85_2 := blk_frozen BK151.out 2
                          have hfz85_3 := blk_frozen BK151.out 3
                          have hcz86_0 : wr.cell? ⟨gb148, 0, none⟩ = some (.int .i64 x149000_3) := (blk_cell BK148.out 0).trans rfl
                          have hcz86_1 : wr.cell? ⟨gb148, 1, none⟩ = some (.int .i64 x149001_3) := (blk_cell BK148.out 1).trans rfl
                          have hcz86_2 : wr.cell? ⟨gb148, 2, none⟩ = some (.string x149002_3) := (blk_cell BK148.out 2).trans rfl
                          have hcz86_3 : wr.cell? ⟨gb148, 3, none⟩ = some (.slice none 0 0) := (blk_cell BK148.out 3).trans rfl
                          have hfz86_0 := blk_frozen BK148.out 0
                          have hfz86_1 := blk_frozen BK148.out 1
                          have hfz86_2 := blk_frozen BK148.out 2
                          have hfz86_3 := blk_frozen BK148.out 3
                          obtain ⟨Ao87, co87, eo87⟩ := Kd.R_slice HO_152003.out
                          subst eo87
                          go_wp2
                          refine bodyPost_ret (results_ct rfl _ _ gb148 24 #[.int .i64 (wrap64 (Int.tdiv (wrap64 (rd l0 0)) 64)), .int .i64 0, .string (⟨#[]⟩ : ByteArray), .slice Ao87 x152003_3.length co87] (0, 0) _ rfl (by (with_reducible repeat (first | refine blk_drewN ?_ _ | refine blk_drew ?_ | refine blk_alloc ?_ _)); refine blk_put (cs := #[.int .i64 (wrap64 (Int.tdiv (wrap64 (rd l0 0)) 64)), .int .i64 0, .string (⟨#[]⟩ : ByteArray), .slice none 0 0]) ?_ 3 _ rfl; (with_reducible repeat (first | refine blk_drewN ?_ _ | refine blk_drew ?_ | refine blk_alloc ?_ _)); refine blk_put (cs := #[.int .i64 (wrap64 (Int.tdiv (wrap64 (rd l0 0)) 64)), .int .i64 0, .string x149002_3, .slice none 0 0]) ?_ 2 _ rfl; (with_reducible repeat (first | refine blk_drewN ?_ _ | refine blk_drew ?_ | refine blk_alloc ?_ _)); refine blk_put (cs := #[.int .i64 (wrap64 (Int.tdiv (wrap64 (rd l0 0)) 64)), .int .i64 x149001_3, .string x149002_3, .slice none 0 0]) ?_ 1 _ rfl; (with_reducible repeat (first | refine blk_drewN ?_ _ | refine blk_drew ?_ | refine blk_alloc ?_ _)); refine blk_put (cs := #[.int .i64 x149000_3, .int .i64 x149001_3, .string x149002_3, .slice none 0 0]) ?_ 0 _ rfl; (with_reducible repeat (first | refine blk_drewN ?_ _ | refine blk_drew ?_ | refine blk_alloc ?_ _)); exact BK148.out) Try.underlying24 rfl (by kernel_rfl)) rfl ?_
                          exact ⟨_, by first | rfl | (simp [errW_none, errW_some] <;> rfl) | (simp [*, errW_none, errW_some] <;> rfl), by (with_reducible repeat (first | apply Kd.R_alloc | apply Kd.R_drewN | apply Kd.R_drew)); exact Kd.R_mono (Kd.R_far (p := ⟨gb148, 3, none⟩) (Kd.R_far (p := ⟨gb148, 2, none⟩) (Kd.R_far (p := ⟨gb148, 1, none⟩) (Kd.R_far (p := ⟨gb148, 0, none⟩) (Kd.R_mono HO_152003.out (fun k_ hk => (⟨hk, hk.1⟩ : _ ∧ k_ ≠ gb148))) (fun _ hk => hk.2) (.int .i64 (wrap64 (Int.tdiv (wrap64 (rd l0 0)) 64)))) (fun _ hk => hk.2) (.int .i64 0)) (fun _ hk => hk.2) (.string (⟨#[]⟩ : ByteArray))) (fun _ hk => hk.2) (.slice Ao87 x152003_3.length co87)) (fun _ hk => trivial), by repeat (first | (with_reducible first | exact HB.out | apply below_alloc | apply pw_below_drewN | apply below_drew1 | refine below_set ?_ GE148.out | refine below_set ?_ GE151.out) | exact HB.out)⟩
        · rw [if_neg c10] at H
          exact absurd H (by simp)

end Go.Proofs.Ytploigkfnkgjiaa.PN
