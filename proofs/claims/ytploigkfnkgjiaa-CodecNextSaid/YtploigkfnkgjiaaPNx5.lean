-- Written by a program of this place (wip/gen.py) with the kit's print; not trusted: Lean checks it.
import Derived.Test.YtploigkfnkgjiaaPNx0
namespace Go.Proofs.Ytploigkfnkgjiaa.PN
open Go.RowKit Go.Proofs.YtploigkfnkgjiaaW.PrintWords Go.Proofs.YtploigkfnkgjiaaW.PrintLast Go.Proofs.YtploigkfnkgjiaaW.PrintMore
attribute [local go_sem] max2_int min2_int max_two min_two max_three min_three max_four min_four   -- for this text's walks alone
set_option linter.unusedVariables false
set_option linter.unusedSimpArgs false

/-! ### vinculumlaw03_back: function 24 -/
mutual
def vinculumlaw03_back.l0 : Nat → Int → Int → Int → Int → ByteArray → List (S29) → Int → Int → ByteArray → List (S24) → Option (Int × Int × ByteArray × (List (S24)) × Bool)
  | 0, _, _, _, _, _, _, _, _, _, _ => none
  | k + 1, x1, x7, x134000, x134001, x134002, x134003, x136000, x136001, x136002, x136003 => if x7 < (x134003.length : Int) then (if 0 ≤ x7 then ((vinculumlaw03_back.f k ((rd_T29 x134003 x7).f0) ((rd_T29 x134003 x7).f1) ((rd_T29 x134003 x7).f2) ((rd_T29 x134003 x7).f3) x1).bind fun bt137 => (if bt137.2.2.2.2 = true then (if x136003.length < 2513169434916 then (vinculumlaw03_back.l0 k x1 (wrap64 (x7 + 1)) x134000 x134001 x134002 x134003 x136000 x136001 x136002 (x136003 ++ [(⟨bt137.1, bt137.2.1, bt137.2.2.1, bt137.2.2.2.1⟩ : S24)])) else (none)) else (some (x136000, x136001, x136002, x136003, false)))) else (none)) else (some (x136000, x136001, x136002, x136003, true))
def vinculumlaw03_back.f : Nat → Int → Int → ByteArray → List (S29) → Int → Option (Int × Int × ByteArray × (List (S24)) × Bool)
  | 0, _, _, _, _, _ => none
  | k + 1, a0_0, a0_1, a0_2, l0_3, a1 => if (l0_3.length : Int) > a1 then (some (a0_0, a0_1, a0_2, ([] : List (S24)), false)) else (vinculumlaw03_back.l0 k a1 0 a0_0 a0_1 a0_2 l0_3 a0_0 a0_1 a0_2 ([] : List (S24)))
end
theorem vinculumlaw03_back.mono_l : ∀ k, (∀ y0 y1 y2 y3 y4, LeO (vinculumlaw03_back.f k y0 y1 y2 y3 y4) (vinculumlaw03_back.f (k + 1) y0 y1 y2 y3 y4)) ∧ (∀ y0 y1 y2 y3 y4 y5 y6 y7 y8 y9, LeO (vinculumlaw03_back.l0 k y0 y1 y2 y3 y4 y5 y6 y7 y8 y9) (vinculumlaw03_back.l0 (k + 1) y0 y1 y2 y3 y4 y5 y6 y7 y8 y9))
  | 0 => ⟨fun _ _ _ _ _ r h => by simp [vinculumlaw03_back.f] at h, fun _ _ _ _ _ _ _ _ _ _ r h => by simp [vinculumlaw03_back.l0] at h⟩
  | k + 1 => by
    obtain ⟨ih0, ih1⟩ := vinculumlaw03_back.mono_l k
    refine ⟨?_, ?_⟩
    · intro y0 y1 y2 y3 y4
      unfold vinculumlaw03_back.f
      repeat' first
      | (with_reducible exact ih0 _ _ _ _ _)
      | (with_reducible exact ih1 _ _ _ _ _ _ _ _ _ _)
      | (with_reducible exact LeO.refl _)
      | (with_reducible exact LeO.none _)
      | (with_reducible refine LeO.ite ?_ ?_)
      | (with_reducible refine LeO.bind ?_ (fun _ => ?_))
      | exact ih0 _ _ _ _ _
      | exact ih1 _ _ _ _ _ _ _ _ _ _
      | exact LeO.none _
      | refine LeO.ite ?_ ?_
      | refine LeO.bind ?_ (fun _ => ?_)
    · intro y0 y1 y2 y3 y4 y5 y6 y7 y8 y9
      unfold vinculumlaw03_back.l0
      repeat' first
      | (with_reducible exact ih0 _ _ _ _ _)
      | (with_reducible exact ih1 _ _ _ _ _ _ _ _ _ _)
      | (with_reducible exact LeO.refl _)
      | (with_reducible exact LeO.none _)
      | (with_reducible refine LeO.ite ?_ ?_)
      | (with_reducible refine LeO.bind ?_ (fun _ => ?_))
      | exact ih0 _ _ _ _ _
      | exact ih1 _ _ _ _ _ _ _ _ _ _
      | exact LeO.none _
      | refine LeO.ite ?_ ?_
      | refine LeO.bind ?_ (fun _ => ?_)
theorem vinculumlaw03_back.mono : ∀ a0 a1 a2 a3 a4 k, LeO (vinculumlaw03_back.f k a0 a1 a2 a3 a4) (vinculumlaw03_back.f (k + 1) a0 a1 a2 a3 a4) := by
  intro a0 a1 a2 a3 a4 k
  obtain ⟨ih0, ih1⟩ := vinculumlaw03_back.mono_l k
  exact ih0 a0 a1 a2 a3 a4
set_option maxHeartbeats 8000000 in
set_option maxRecDepth 100000 in
theorem vinculumlaw03_back.calls (k : Nat) : ∀ (a0_0 : Int) (a0_1 : Int) (a0_2 : ByteArray) (A0_3 : Option Addr) (c0_3 : Nat) (l0_3 : List (S29)) (a1 : Int) (r1 : Int) (r2 : Int) (r3 : ByteArray) (r4 : List (S24)) (r5 : Bool) (w : World) (hr0_3 : Kd.C k29 w A0_3 l0_3.length l0_3) (hc0_3 : l0_3.length ≤ c0_3) (h : vinculumlaw03_back.f k a0_0 a0_1 a0_2 l0_3 a1 = some (r1, r2, r3, r4, r5)),
    Calls Try.prog 24 #[.agg #[.int .i64 a0_0, .int .i64 a0_1, .string a0_2, .slice A0_3 l0_3.length c0_3], .int .i64 a1] w fun e w' => ∃ v3_ : Value, e = .returned (.tuple #[.agg #[.int .i64 r1, .int .i64 r2, .string r3, v3_], .bool r5]) ∧ Kd.R k24 24 w' w.heap.size (fun _ => True) v3_ r4 ∧ Below w.heap.size w w' := by
  induction k using Nat.strongRecOn with
  | _ k ih =>
  intro a0_0 a0_1 a0_2 A0_3 c0_3 l0_3 a1 r1 r2 r3 r4 r5 w hr0_3 hc0_3 h
  cases k with
  | zero => exact absurd h (by simp [vinculumlaw03_back.f])
  | succ k =>
  simp only [vinculumlaw03_back.f] at h
  have hu29 := Try.underlying29
  have hu24 := Try.underlying24
  have HR0_3 := Aside0.mk hr0_3
  have HC0_3 := Aside0.mk hc0_3
  clear hr0_3 hc0_3
  have HB := Aside0.mk (Below.refl w.heap.size w)
  have H : (if (l0_3.length : Int) > a1 then (some (a0_0, a0_1, a0_2, ([] : List (S24)), false)) else (vinculumlaw03_back.l0 k a1 0 a0_0 a0_1 a0_2 l0_3 a0_0 a0_1 a0_2 ([] : List (S24)))) = some (r1, r2, r3, r4, r5) := h
  clear h
  by_cases c3 : (l0_3.length : Int) > a1
  · rw [if_pos c3] at H
    have c3b0 : decide (a1 < (l0_3.length : Int)) = true := decide_eq_true c3
    clear c3
    simp only [Option.some.injEq, Prod.mk.injEq] at H
    obtain ⟨rfl, rfl, rfl, rfl, rfl⟩ := H
    go_enter Try.func24, Try.ntmps24
    go_wp2_with (first | ((with_reducible refine gate_dst (N := 2) rfl ?_); refine box_event ?hg (N := 2) ?hd (cs := #[.int .i64 a0_0, .int .i64 a0_1, .string a0_2, .slice A0_3 l0_3.length c0_3]) (t := 29) ?hr ?_; (case hd => rfl); (case hg => rfl); (case hr => first | (go_simp; done) | (go_simp; rfl)); intro gb133 hg w4 hbox hb; have n0_ := Aside0.mk (below_step (by repeat (first | (with_reducible first | exact HB.out | apply below_alloc | apply pw_below_drewN | apply below_drew1) | exact HB.out)) hb); have n1_ := Aside0.mk (hbox); have n2_ := Aside0.mk ((by rw [hg]; exact (below_size (by repeat (first | (with_reducible first | exact HB.out | apply below_alloc | apply pw_below_drewN | apply below_drew1) | exact HB.out))) : w.heap.size ≤ gb133)); have n3_ := Aside0.mk ((by rw [hg]; exact (below_size (by repeat (first | (with_reducible first | exact HB.out | apply below_alloc | apply pw_below_drewN | apply below_drew1) | exact HB.out))) : w.heap.size ≤ gb133)); clear HB; have HB := n0_; have BK133 := n1_; have GW133 := n2_; have GE133 := n3_; clear n0_ n1_ n2_ n3_; clear hb hbox hg) | ((with_reducible refine gate_dst (N := 4) rfl ?_); refine box_event ?hg (N := 4) ?hd (cs := #[.int .i64 0, .int .i64 0, .string (⟨#[]⟩ : ByteArray), .slice none 0 0]) (t := 24) ?hr ?_; (case hd => rfl); (case hg => rfl); (case hr => first | (go_simp; done) | (go_simp; rfl)); intro gb134 hg w5 hbox hb; have n0_ := Aside0.mk (blk_below (g := gb133) (o := .cells #[.int .i64 a0_0, .int .i64 a0_1, .string a0_2, .slice A0_3 l0_3.length c0_3] 29 (0, 0)) (by (with_reducible repeat (first | refine blk_drewN ?_ _ | refine blk_drew ?_ | refine blk_alloc ?_ _)); exact BK133.out) hb); have n1_ := Aside0.mk (below_step (by repeat (first | (with_reducible first | exact HB.out | apply below_alloc | apply pw_below_drewN | apply below_drew1 | refine below_set ?_ GE133.out) | exact HB.out)) hb); have n2_ := Aside0.mk (hbox); have n3_ := Aside0.mk ((by rw [hg]; exact (below_size (by repeat (first | (with_reducible first | exact HB.out | apply below_alloc | apply pw_below_drewN | apply below_drew1 | refine below_set ?_ GE133.out) | exact HB.out))) : w.heap.size ≤ gb134)); have n4_ := Aside0.mk ((by rw [hg]; exact (below_size (by repeat (first | (with_reducible first | exact HB.out | apply below_alloc | apply pw_below_drewN | apply below_drew1 | refine below_set ?_ GE133.out) | exact HB.out))) : w.heap.size ≤ gb134)); have n5_ := Aside0.mk ((by rw [hg]; exact Nat.ne_of_lt (blk_lt (g := gb133) (o := .cells #[.int .i64 a0_0, .int .i64 a0_1, .string a0_2, .slice A0_3 l0_3.length c0_3] 29 (0, 0)) (by (with_reducible repeat (first | refine blk_drewN ?_ _ | refine blk_drew ?_ | refine blk_alloc ?_ _)); exact BK133.out)) : gb133 ≠ gb134)); have n6_ := Aside0.mk ((by rw [hg]; exact Nat.ne_of_gt (blk_lt (g := gb133) (o := .cells #[.int .i64 a0_0, .int .i64 a0_1, .string a0_2, .slice A0_3 l0_3.length c0_3] 29 (0, 0)) (by (with_reducible repeat (first | refine blk_drewN ?_ _ | refine blk_drew ?_ | refine blk_alloc ?_ _)); exact BK133.out)) : gb134 ≠ gb133)); clear BK133; clear HB; have BK133 := n0_; have HB := n1_; have BK134 := n2_; have GW134 := n3_; have GE134 := n4_; have NB133_134 := n5_; have NB134_133 := n6_; clear n0_ n1_ n2_ n3_ n4_ n5_ n6_; clear hb hbox hg; have hnb6 := NB133_134.out; have hnc6 := NB134_133.out; have hcz7_0 : w5.cell? ⟨gb133, 0, none⟩ = some (.int .i64 a0_0) := (blk_cell BK133.out 0).trans rfl; have hcz7_1 : w5.cell? ⟨gb133, 1, none⟩ = some (.int .i64 a0_1) := (blk_cell BK133.out 1).trans rfl; have hcz7_2 : w5.cell? ⟨gb133, 2, none⟩ = some (.string a0_2) := (blk_cell BK133.out 2).trans rfl; have hcz7_3 : w5.cell? ⟨gb133, 3, none⟩ = some (.slice A0_3 l0_3.length c0_3) := (blk_cell BK133.out 3).trans rfl; have hfz7_0 := blk_frozen BK133.out 0; have hfz7_1 := blk_frozen BK133.out 1; have hfz7_2 := blk_frozen BK133.out 2; have hfz7_3 := blk_frozen BK133.out 3) | ((with_reducible refine gate_dst (N := 6) rfl ?_); refine box_event ?hg (N := 6) ?hd (cs := #[.int .i64 0, .int .i64 0, .string (⟨#[]⟩ : ByteArray), .slice none 0 0]) (t := 24) ?hr ?_; (case hd => rfl); (case hg => rfl); (case hr => first | (go_simp; done) | (go_simp; rfl)); intro gb135 hg w8 hbox hb; have n0_ := Aside0.mk (blk_below (g := gb133) (o := .cells #[.int .i64 a0_0, .int .i64 a0_1, .string a0_2, .slice A0_3 l0_3.length c0_3] 29 (0, 0)) (by (with_reducible repeat (first | refine blk_drewN ?_ _ | refine blk_drew ?_ | refine blk_alloc ?_ _)); exact BK133.out) hb); have n1_ := Aside0.mk (blk_below (g := gb134) (o := .cells #[.int .i64 0, .int .i64 0, .string (⟨#[]⟩ : ByteArray), .slice none 0 0] 24 (0, 0)) (by (with_reducible repeat (first | refine blk_drewN ?_ _ | refine blk_drew ?_ | refine blk_alloc ?_ _)); exact BK134.out) hb); have n2_ := Aside0.mk (below_step (by repeat (first | (with_reducible first | exact HB.out | apply below_alloc | apply pw_below_drewN | apply below_drew1 | refine below_set ?_ GE133.out | refine below_set ?_ GE134.out) | exact HB.out)) hb); have n3_ := Aside0.mk (hbox); have n4_ := Aside0.mk ((by rw [hg]; exact (below_size (by repeat (first | (with_reducible first | exact HB.out | apply below_alloc | apply pw_below_drewN | apply below_drew1 | refine below_set ?_ GE133.out | refine below_set ?_ GE134.out) | exact HB.out))) : w.heap.size ≤ gb135)); have n5_ := Aside0.mk ((by rw [hg]; exact (below_size (by repeat (first | (with_reducible first | exact HB.out | apply below_alloc | apply pw_below_drewN | apply below_drew1 | refine below_set ?_ GE133.out | refine below_set ?_ GE134.out) | exact HB.out))) : w.heap.size ≤ gb135)); have n6_ := Aside0.mk ((by rw [hg]; exact Nat.ne_of_lt (blk_lt (g := gb133) (o := .cells #[.int .i64 a0_0, .int .i64 a0_1, .string a0_2, .slice A0_3 l0_3.length c0_3] 29 (0, 0)) (by (with_reducible repeat (first | refine blk_drewN ?_ _ | refine blk_drew ?_ | refine blk_alloc ?_ _)); exact BK133.out)) : gb133 ≠ gb135)); have n7_ := Aside0.mk ((by rw [hg]; exact Nat.ne_of_gt (blk_lt (g := gb133) (o := .cells #[.int .i64 a0_0, .int .i64 a0_1, .string a0_2, .slice A0_3 l0_3.length c0_3] 29 (0, 0)) (by (with_reducible repeat (first | refine blk_drewN ?_ _ | refine blk_drew ?_ | refine blk_alloc ?_ _)); exact BK133.out)) : gb135 ≠ gb133)); have n8_ := Aside0.mk ((by rw [hg]; exact Nat.ne_of_lt (blk_lt (g := gb134) (o := .cells #[.int .i64 0, .int .i64 0, .string (⟨#[]⟩ : ByteArray), .slice none 0 0] 24 (0, 0)) (by (with_reducible repeat (first | refine blk_drewN ?_ _ | refine blk_drew ?_ | refine blk_alloc ?_ _)); exact BK134.out)) : gb134 ≠ gb135)); have n9_ := Aside0.mk ((by rw [hg]; exact Nat.ne_of_gt (blk_lt (g := gb134) (o := .cells #[.int .i64 0, .int .i64 0, .string (⟨#[]⟩ : ByteArray), .slice none 0 0] 24 (0, 0)) (by (with_reducible repeat (first | refine blk_drewN ?_ _ | refine blk_drew ?_ | refine blk_alloc ?_ _)); exact BK134.out)) : gb135 ≠ gb134)); clear BK133; clear BK134; clear HB; have BK133 := n0_; have BK134 := n1_; have HB := n2_; have BK135 := n3_; have GW135 := n4_; have GE135 := n5_; have NB133_135 := n6_; have NB135_133 := n7_; have NB134_135 := n8_; have NB135_134 := n9_; clear n0_ n1_ n2_ n3_ n4_ n5_ n6_ n7_ n8_ n9_; clear hb hbox hg; have hnb9 := NB135_133.out; have hnc9 := NB133_135.out; have hnb10 := NB135_134.out; have hnc10 := NB134_135.out; have hcz11_0 : w8.cell? ⟨gb135, 0, none⟩ = some (.int .i64 0) := (blk_cell BK135.out 0).trans rfl; have hcz11_1 : w8.cell? ⟨gb135, 1, none⟩ = some (.int .i64 0) := (blk_cell BK135.out 1).trans rfl; have hcz11_2 : w8.cell? ⟨gb135, 2, none⟩ = some (.string (⟨#[]⟩ : ByteArray)) := (blk_cell BK135.out 2).trans rfl; have hcz11_3 : w8.cell? ⟨gb135, 3, none⟩ = some (.slice none 0 0) := (blk_cell BK135.out 3).trans rfl; have hfz11_0 := blk_frozen BK135.out 0; have hfz11_1 := blk_frozen BK135.out 1; have hfz11_2 := blk_frozen BK135.out 2; have hfz11_3 := blk_frozen BK135.out 3; have hcz12_0 : w8.cell? ⟨gb133, 0, none⟩ = some (.int .i64 a0_0) := (blk_cell BK133.out 0).trans rfl; have hcz12_1 : w8.cell? ⟨gb133, 1, none⟩ = some (.int .i64 a0_1) := (blk_cell BK133.out 1).trans rfl; have hcz12_2 : w8.cell? ⟨gb133, 2, none⟩ = some (.string a0_2) := (blk_cell BK133.out 2).trans rfl; have hcz12_3 : w8.cell? ⟨gb133, 3, none⟩ = some (.slice A0_3 l0_3.length c0_3) := (blk_cell BK133.out 3).trans rfl; have hfz12_0 := blk_frozen BK133.out 0; have hfz12_1 := blk_frozen BK133.out 1; have hfz12_2 := blk_frozen BK133.out 2; have hfz12_3 := blk_frozen BK133.out 3; have hcz13_0 : w8.cell? ⟨gb134, 0, none⟩ = some (.int .i64 0) := (blk_cell BK134.out 0).trans rfl; have hcz13_1 : w8.cell? ⟨gb134, 1, none⟩ = some (.int .i64 0) := (blk_cell BK134.out 1).trans rfl; have hcz13_2 : w8.cell? ⟨gb134, 2, none⟩ = some (.string (⟨#[]⟩ : ByteArray)) := (blk_cell BK134.out 2).trans rfl; have hcz13_3 : w8.cell? ⟨gb134, 3, none⟩ = some (.slice none 0 0) := (blk_cell BK134.out 3).trans rfl; have hfz13_0 := blk_frozen BK134.out 0; have hfz13_1 := blk_frozen BK134.out 1; have hfz13_2 := blk_frozen BK134.out 2; have hfz13_3 := blk_frozen BK134.out 3))
    refine bodyPost_ret (results_ct rfl _ _ gb134 24 #[.int .i64 a0_0, .int .i64 a0_1, .string a0_2, .slice none 0 0] (0, 0) _ rfl (by (with_reducible repeat (first | refine blk_drewN ?_ _ | refine blk_drew ?_ | refine blk_alloc ?_ _)); refine blk_put (cs := #[.int .i64 a0_0, .int .i64 a0_1, .string a0_2, .slice none 0 0]) ?_ 3 _ rfl; (with_reducible repeat (first | refine blk_drewN ?_ _ | refine blk_drew ?_ | refine blk_alloc ?_ _)); refine blk_put (cs := #[.int .i64 a0_0, .int .i64 a0_1, .string (⟨#[]⟩ : ByteArray), .slice none 0 0]) ?_ 2 _ rfl; (with_reducible repeat (first | refine blk_drewN ?_ _ | refine blk_drew ?_ | refine blk_alloc ?_ _)); refine blk_put (cs := #[.int .i64 a0_0, .int .i64 0, .string (⟨#[]⟩ : ByteArray), .slice none 0 0]) ?_ 1 _ rfl; (with_reducible repeat (first | refine blk_drewN ?_ _ | refine blk_drew ?_ | refine blk_alloc ?_ _)); refine blk_put (cs := #[.int .i64 0, .int .i64 0, .string (⟨#[]⟩ : ByteArray), .slice none 0 0]) ?_ 0 _ rfl; (with_reducible repeat (first | refine blk_drewN ?_ _ | refine blk_drew ?_ | refine blk_alloc ?_ _)); refine blk_far ?_ NB134_135.out _; (with_reducible repeat (first | refine blk_drewN ?_ _ | refine blk_drew ?_ | refine blk_alloc ?_ _)); refine blk_far ?_ NB134_135.out _; (with_reducible repeat (first | refine blk_drewN ?_ _ | refine blk_drew ?_ | refine blk_alloc ?_ _)); refine blk_far ?_ NB134_135.out _; (with_reducible repeat (first | refine blk_drewN ?_ _ | refine blk_drew ?_ | refine blk_alloc ?_ _)); refine blk_far ?_ NB134_135.out _; (with_reducible repeat (first | refine blk_drewN ?_ _ | refine blk_drew ?_ | refine blk_alloc ?_ _)); exact BK134.out) Try.underlying24 rfl (by kernel_rfl)) rfl ?_
    exact ⟨_, by first | rfl | (simp [errW_none, errW_some] <;> rfl) | (simp [*, errW_none, errW_some] <;> rfl), by first | exact Kd.R_nil _ _ _ _ _ | exact Kd.N_nil _ _ _ _ _ | exact Kd.V_nil _ _ _ _ _ | exact Kd.Q_nil _ _ _ _ _ | exact Kd.S_nil _ _ _ _ _, by repeat (first | (with_reducible first | exact HB.out | apply below_alloc | apply pw_below_drewN | apply below_drew1 | refine below_set ?_ GE133.out | refine below_set ?_ GE134.out | refine below_set ?_ GE135.out) | exact HB.out)⟩
  · rw [if_neg c3] at H
    have c3b0 : decide (a1 < (l0_3.length : Int)) = false := decide_eq_false c3
    clear c3
    have H' := Aside0.mk H
    clear H
    go_enter Try.func24, Try.ntmps24
    go_wp2_with (first | ((with_reducible refine gate_dst (N := 2) rfl ?_); refine box_event ?hg (N := 2) ?hd (cs := #[.int .i64 a0_0, .int .i64 a0_1, .string a0_2, .slice A0_3 l0_3.length c0_3]) (t := 29) ?hr ?_; (case hd => rfl); (case hg => rfl); (case hr => first | (go_simp; done) | (go_simp; rfl)); intro gb133 hg w14 hbox hb; have n0_ := Aside0.mk (below_step (by repeat (first | (with_reducible first | exact HB.out | apply below_alloc | apply pw_below_drewN | apply below_drew1) | exact HB.out)) hb); have n1_ := Aside0.mk (hbox); have n2_ := Aside0.mk ((by rw [hg]; exact (below_size (by repeat (first | (with_reducible first | exact HB.out | apply below_alloc | apply pw_below_drewN | apply below_drew1) | exact HB.out))) : w.heap.size ≤ gb133)); have n3_ := Aside0.mk ((by rw [hg]; exact (below_size (by repeat (first | (with_reducible first | exact HB.out | apply below_alloc | apply pw_below_drewN | apply below_drew1) | exact HB.out))) : w.heap.size ≤ gb133)); clear HB; have HB := n0_; have BK133 := n1_; have GW133 := n2_; have GE133 := n3_; clear n0_ n1_ n2_ n3_; clear hb hbox hg) | ((with_reducible refine gate_dst (N := 4) rfl ?_); refine box_event ?hg (N := 4) ?hd (cs := #[.int .i64 0, .int .i64 0, .string (⟨#[]⟩ : ByteArray), .slice none 0 0]) (t := 24) ?hr ?_; (case hd => rfl); (case hg => rfl); (case hr => first | (go_simp; done) | (go_simp; rfl)); intro gb134 hg w15 hbox hb; have n0_ := Aside0.mk (blk_below (g := gb133) (o := .cells #[.int .i64 a0_0, .int .i64 a0_1, .string a0_2, .slice A0_3 l0_3.length c0_3] 29 (0, 0)) (by (with_reducible repeat (first | refine blk_drewN ?_ _ | refine blk_drew ?_ | refine blk_alloc ?_ _)); exact BK133.out) hb); have n1_ := Aside0.mk (below_step (by repeat (first | (with_reducible first | exact HB.out | apply below_alloc | apply pw_below_drewN | apply below_drew1 | refine below_set ?_ GE133.out) | exact HB.out)) hb); have n2_ := Aside0.mk (hbox); have n3_ := Aside0.mk ((by rw [hg]; exact (below_size (by repeat (first | (with_reducible first | exact HB.out | apply below_alloc | apply pw_below_drewN | apply below_drew1 | refine below_set ?_ GE133.out) | exact HB.out))) : w.heap.size ≤ gb134)); have n4_ := Aside0.mk ((by rw [hg]; exact (below_size (by repeat (first | (with_reducible first | exact HB.out | apply below_alloc | apply pw_below_drewN | apply below_drew1 | refine below_set ?_ GE133.out) | exact HB.out))) : w.heap.size ≤ gb134)); have n5_ := Aside0.mk ((by rw [hg]; exact Nat.ne_of_lt (blk_lt (g := gb133) (o := .cells #[.int .i64 a0_0, .int .i64 a0_1, .string a0_2, .slice A0_3 l0_3.length c0_3] 29 (0, 0)) (by (with_reducible repeat (first | refine blk_drewN ?_ _ | refine blk_drew ?_ | refine blk_alloc ?_ _)); exact BK133.out)) : gb133 ≠ gb134)); have n6_ := Aside0.mk ((by rw [hg]; exact Nat.ne_of_gt (blk_lt (g := gb133) (o := .cells #[.int .i64 a0_0, .int .i64 a0_1, .string a0_2, .slice A0_3 l0_3.length c0_3] 29 (0, 0)) (by (with_reducible repeat (first | refine blk_drewN ?_ _ | refine blk_drew ?_ | refine blk_alloc ?_ _)); exact BK133.out)) : gb134 ≠ gb133)); clear BK133; clear HB; have BK133 := n0_; have HB := n1_; have BK134 := n2_; have GW134 := n3_; have GE134 := n4_; have NB133_134 := n5_; have NB134_133 := n6_; clear n0_ n1_ n2_ n3_ n4_ n5_ n6_; clear hb hbox hg; have hnb16 := NB133_134.out; have hnc16 := NB134_133.out; have hcz17_0 : w15.cell? ⟨gb133, 0, none⟩ = some (.int .i64 a0_0) := (blk_cell BK133.out 0).trans rfl; have hcz17_1 : w15.cell? ⟨gb133, 1, none⟩ = some (.int .i64 a0_1) := (blk_cell BK133.out 1).trans rfl; have hcz17_2 : w15.cell? ⟨gb133, 2, none⟩ = some (.string a0_2) := (blk_cell BK133.out 2).trans rfl; have hcz17_3 : w15.cell? ⟨gb133, 3, none⟩ = some (.slice A0_3 l0_3.length c0_3) := (blk_cell BK133.out 3).trans rfl; have hfz17_0 := blk_frozen BK133.out 0; have hfz17_1 := blk_frozen BK133.out 1; have hfz17_2 := blk_frozen BK133.out 2; have hfz17_3 := blk_frozen BK133.out 3) | ((with_reducible refine gate_dst (N := 6) rfl ?_); refine box_event ?hg (N := 6) ?hd (cs := #[.int .i64 0, .int .i64 0, .string (⟨#[]⟩ : ByteArray), .slice none 0 0]) (t := 24) ?hr ?_; (case hd => rfl); (case hg => rfl); (case hr => first | (go_simp; done) | (go_simp; rfl)); intro gb135 hg w18 hbox hb; have n0_ := Aside0.mk (blk_below (g := gb133) (o := .cells #[.int .i64 a0_0, .int .i64 a0_1, .string a0_2, .slice A0_3 l0_3.length c0_3] 29 (0, 0)) (by (with_reducible repeat (first | refine blk_drewN ?_ _ | refine blk_drew ?_ | refine blk_alloc ?_ _)); exact BK133.out) hb); have n1_ := Aside0.mk (blk_below (g := gb134) (o := .cells #[.int .i64 0, .int .i64 0, .string (⟨#[]⟩ : ByteArray), .slice none 0 0] 24 (0, 0)) (by (with_reducible repeat (first | refine blk_drewN ?_ _ | refine blk_drew ?_ | refine blk_alloc ?_ _)); exact BK134.out) hb); have n2_ := Aside0.mk (below_step (by repeat (first | (with_reducible first | exact HB.out | apply below_alloc | apply pw_below_drewN | apply below_drew1 | refine below_set ?_ GE133.out | refine below_set ?_ GE134.out) | exact HB.out)) hb); have n3_ := Aside0.mk (hbox); have n4_ := Aside0.mk ((by rw [hg]; exact (below_size (by repeat (first | (with_reducible first | exact HB.out | apply below_alloc | apply pw_below_drewN | apply below_drew1 | refine below_set ?_ GE133.out | refine below_set ?_ GE134.out) | exact HB.out))) : w.heap.size ≤ gb135)); have n5_ := Aside0.mk ((by rw [hg]; exact (below_size (by repeat (first | (with_reducible first | exact HB.out | apply below_alloc | apply pw_below_drewN | apply below_drew1 | refine below_set ?_ GE133.out | refine below_set ?_ GE134.out) | exact HB.out))) : w.heap.size ≤ gb135)); have n6_ := Aside0.mk ((by rw [hg]; exact Nat.ne_of_lt (blk_lt (g := gb133) (o := .cells #[.int .i64 a0_0, .int .i64 a0_1, .string a0_2, .slice A0_3 l0_3.length c0_3] 29 (0, 0)) (by (with_reducible repeat (first | refine blk_drewN ?_ _ | refine blk_drew ?_ | refine blk_alloc ?_ _)); exact BK133.out)) : gb133 ≠ gb135)); have n7_ := Aside0.mk ((by rw [hg]; exact Nat.ne_of_gt (blk_lt (g := gb133) (o := .cells #[.int .i64 a0_0, .int .i64 a0_1, .string a0_2, .slice A0_3 l0_3.length c0_3] 29 (0, 0)) (by (with_reducible repeat (first | refine blk_drewN ?_ _ | refine blk_drew ?_ | refine blk_alloc ?_ _)); exact BK133.out)) : gb135 ≠ gb133)); have n8_ := Aside0.mk ((by rw [hg]; exact Nat.ne_of_lt (blk_lt (g := gb134) (o := .cells #[.int .i64 0, .int .i64 0, .string (⟨#[]⟩ : ByteArray), .slice none 0 0] 24 (0, 0)) (by (with_reducible repeat (first | refine blk_drewN ?_ _ | refine blk_drew ?_ | refine blk_alloc ?_ _)); exact BK134.out)) : gb134 ≠ gb135)); have n9_ := Aside0.mk ((by rw [hg]; exact Nat.ne_of_gt (blk_lt (g := gb134) (o := .cells #[.int .i64 0, .int .i64 0, .string (⟨#[]⟩ : ByteArray), .slice none 0 0] 24 (0, 0)) (by (with_reducible repeat (first | refine blk_drewN ?_ _ | refine blk_drew ?_ | refine blk_alloc ?_ _)); exact BK134.out)) : gb135 ≠ gb134)); clear BK133; clear BK134; clear HB; have BK133 := n0_; have BK134 := n1_; have HB := n2_; have BK135 := n3_; have GW135 := n4_; have GE135 := n5_; have NB133_135 := n6_; have NB135_133 := n7_; have NB134_135 := n8_; have NB135_134 := n9_; clear n0_ n1_ n2_ n3_ n4_ n5_ n6_ n7_ n8_ n9_; clear hb hbox hg; have hnb19 := NB135_133.out; have hnc19 := NB133_135.out; have hnb20 := NB135_134.out; have hnc20 := NB134_135.out; have hcz21_0 : w18.cell? ⟨gb135, 0, none⟩ = some (.int .i64 0) := (blk_cell BK135.out 0).trans rfl; have hcz21_1 : w18.cell? ⟨gb135, 1, none⟩ = some (.int .i64 0) := (blk_cell BK135.out 1).trans rfl; have hcz21_2 : w18.cell? ⟨gb135, 2, none⟩ = some (.string (⟨#[]⟩ : ByteArray)) := (blk_cell BK135.out 2).trans rfl; have hcz21_3 : w18.cell? ⟨gb135, 3, none⟩ = some (.slice none 0 0) := (blk_cell BK135.out 3).trans rfl; have hfz21_0 := blk_frozen BK135.out 0; have hfz21_1 := blk_frozen BK135.out 1; have hfz21_2 := blk_frozen BK135.out 2; have hfz21_3 := blk_frozen BK135.out 3; have hcz22_0 : w18.cell? ⟨gb133, 0, none⟩ = some (.int .i64 a0_0) := (blk_cell BK133.out 0).trans rfl; have hcz22_1 : w18.cell? ⟨gb133, 1, none⟩ = some (.int .i64 a0_1) := (blk_cell BK133.out 1).trans rfl; have hcz22_2 : w18.cell? ⟨gb133, 2, none⟩ = some (.string a0_2) := (blk_cell BK133.out 2).trans rfl; have hcz22_3 : w18.cell? ⟨gb133, 3, none⟩ = some (.slice A0_3 l0_3.length c0_3) := (blk_cell BK133.out 3).trans rfl; have hfz22_0 := blk_frozen BK133.out 0; have hfz22_1 := blk_frozen BK133.out 1; have hfz22_2 := blk_frozen BK133.out 2; have hfz22_3 := blk_frozen BK133.out 3))
    go_loopg [7] k (fun kq v7 w' => ∃ (x7_1 : Int) (x135000_1 : Int) (x135001_1 : Int) (x135002_1 : ByteArray) (x136003_1 : List (S24)) (u136003 : Value), v7 = .int .i64 x7_1 ∧ Aside0 (vinculumlaw03_back.l0 kq a1 x7_1 a0_0 a0_1 a0_2 l0_3 a0_0 a0_1 a0_2 x136003_1 = some (r1, r2, r3, r4, r5)) ∧ Aside0 (kq ≤ k) ∧ Aside0 (Kd.R k24 24 w' w.heap.size (fun k_ => k_ ≠ gb134 ∧ k_ ≠ gb135) u136003 x136003_1) ∧ Aside0 (w'.heap[gb133]? = some (.cells #[.int .i64 a0_0, .int .i64 a0_1, .string a0_2, (.slice A0_3 l0_3.length c0_3)] 29 (0, 0))) ∧ Aside0 (w'.heap[gb134]? = some (.cells #[.int .i64 x135000_1, .int .i64 x135001_1, .string x135002_1, (.slice none 0 0)] 24 (0, 0))) ∧ Aside0 (w'.heap[gb135]? = some (.cells #[.int .i64 a0_0, .int .i64 a0_1, .string a0_2, u136003] 24 (0, 0))) ∧ Aside0 (Below w.heap.size w w'))
    case atStart => exact ⟨(0), (0), (0), ((⟨#[]⟩ : ByteArray)), (([] : List (S24))), (.slice none 0 0), (by first | rfl | (simp; done) | (simp [*]; done) | (simp [ne_nil_bool]; done)), H', ⟨Nat.le_refl _⟩, ⟨by first | exact Kd.R_nil _ _ _ _ _ | exact Kd.N_nil _ _ _ _ _ | exact Kd.V_nil _ _ _ _ _ | exact Kd.Q_nil _ _ _ _ _ | exact Kd.S_nil _ _ _ _ _⟩, ⟨by (with_reducible repeat (first | refine blk_drewN ?_ _ | refine blk_drew ?_ | refine blk_alloc ?_ _)); refine blk_far ?_ NB133_135.out _; (with_reducible repeat (first | refine blk_drewN ?_ _ | refine blk_drew ?_ | refine blk_alloc ?_ _)); refine blk_far ?_ NB133_135.out _; (with_reducible repeat (first | refine blk_drewN ?_ _ | refine blk_drew ?_ | refine blk_alloc ?_ _)); refine blk_far ?_ NB133_135.out _; (with_reducible repeat (first | refine blk_drewN ?_ _ | refine blk_drew ?_ | refine blk_alloc ?_ _)); refine blk_far ?_ NB133_135.out _; (with_reducible repeat (first | refine blk_drewN ?_ _ | refine blk_drew ?_ | refine blk_alloc ?_ _)); exact BK133.out⟩, ⟨by (with_reducible repeat (first | refine blk_drewN ?_ _ | refine blk_drew ?_ | refine blk_alloc ?_ _)); refine blk_far ?_ NB134_135.out _; (with_reducible repeat (first | refine blk_drewN ?_ _ | refine blk_drew ?_ | refine blk_alloc ?_ _)); refine blk_far ?_ NB134_135.out _; (with_reducible repeat (first | refine blk_drewN ?_ _ | refine blk_drew ?_ | refine blk_alloc ?_ _)); refine blk_far ?_ NB134_135.out _; (with_reducible repeat (first | refine blk_drewN ?_ _ | refine blk_drew ?_ | refine blk_alloc ?_ _)); refine blk_far ?_ NB134_135.out _; (with_reducible repeat (first | refine blk_drewN ?_ _ | refine blk_drew ?_ | refine blk_alloc ?_ _)); exact BK134.out⟩, ⟨by (with_reducible repeat (first | refine blk_drewN ?_ _ | refine blk_drew ?_ | refine blk_alloc ?_ _)); refine blk_put (cs := #[.int .i64 a0_0, .int .i64 a0_1, .string a0_2, .slice none 0 0]) ?_ 3 _ rfl; (with_reducible repeat (first | refine blk_drewN ?_ _ | refine blk_drew ?_ | refine blk_alloc ?_ _)); refine blk_put (cs := #[.int .i64 a0_0, .int .i64 a0_1, .string (⟨#[]⟩ : ByteArray), .slice none 0 0]) ?_ 2 _ rfl; (with_reducible repeat (first | refine blk_drewN ?_ _ | refine blk_drew ?_ | refine blk_alloc ?_ _)); refine blk_put (cs := #[.int .i64 a0_0, .int .i64 0, .string (⟨#[]⟩ : ByteArray), .slice none 0 0]) ?_ 1 _ rfl; (with_reducible repeat (first | refine blk_drewN ?_ _ | refine blk_drew ?_ | refine blk_alloc ?_ _)); refine blk_put (cs := #[.int .i64 0, .int .i64 0, .string (⟨#[]⟩ : ByteArray), .slice none 0 0]) ?_ 0 _ rfl; (with_reducible repeat (first | refine blk_drewN ?_ _ | refine blk_drew ?_ | refine blk_alloc ?_ _)); exact BK135.out⟩, ⟨by repeat (first | (with_reducible first | exact HB.out | apply below_alloc | apply pw_below_drewN | apply below_drew1 | refine below_set ?_ GE133.out | refine below_set ?_ GE134.out | refine below_set ?_ GE135.out) | exact HB.out)⟩⟩
    case round =>
      clear H'
      try clear c1
      try clear c2
      try clear p2
      try clear c3
      try clear c3b0
      try clear c6
      try clear c9
      try clear c10
      try clear c16
      try clear c19
      try clear c20
      try clear hcz11_0
      try clear hcz11_1
      try clear hcz11_2
      try clear hcz11_3
      try clear hcz12_0
      try clear hcz12_1
      try clear hcz12_2
      try clear hcz12_3
      try clear hcz13_0
      try clear hcz13_1
      try clear hcz13_2
      try clear hcz13_3
      try clear hcz17_0
      try clear hcz17_1
      try clear hcz17_2
      try clear hcz17_3
      try clear hcz21_0
      try clear hcz21_1
      try clear hcz21_2
      try clear hcz21_3
      try clear hcz22_0
      try clear hcz22_1
      try clear hcz22_2
      try clear hcz22_3
      try clear hcz7_0
      try clear hcz7_1
      try clear hcz7_2
      try clear hcz7_3
      try clear hfz11_0
      try clear hfz11_1
      try clear hfz11_2
      try clear hfz11_3
      try clear hfz12_0
      try clear hfz12_1
      try clear hfz12_2
      try clear hfz12_3
      try clear hfz13_0
      try clear hfz13_1
      try clear hfz13_2
      try clear hfz13_3
      try clear hfz17_0
      try clear hfz17_1
      try clear hfz17_2
      try clear hfz17_3
      try clear hfz21_0
      try clear hfz21_1
      try clear hfz21_2
      try clear hfz21_3
      try clear hfz22_0
      try clear hfz22_1
      try clear hfz22_2
      try clear hfz22_3
      try clear hfz7_0
      try clear hfz7_1
      try clear hfz7_2
      try clear hfz7_3
      obtain ⟨x7_1, x135000_1, x135001_1, x135002_1, x136003_1, u136003, rfl, HA, HK1, HO_136003, BK133, BK134, BK135, HB⟩ := hrel
      cases gk with
      | zero => exact absurd HA.out (by simp [vinculumlaw03_back.l0])
      | succ k1 =>
        have H := HA.out
        clear HA
        simp only [vinculumlaw03_back.l0] at H
        by_cases c23 : x7_1 < (l0_3.length : Int)
        · rw [if_pos c23] at H
          have c23b0 : decide (x7_1 < (l0_3.length : Int)) = true := decide_eq_true c23
          clear c23
          by_cases c24 : 0 ≤ x7_1
          · rw [if_pos c24] at H
            have c24b0 : decide (0 ≤ x7_1) = true := decide_eq_true c24
            clear c24
            replace H := Option.bind_eq_some_iff.mp H
            obtain ⟨⟨t137, t138, t139, t140, t143⟩, A250, H⟩ := H
            replace H : (if t143 = true then (if x136003_1.length < 2513169434916 then (vinculumlaw03_back.l0 k1 a1 (wrap64 (x7_1 + 1)) a0_0 a0_1 a0_2 l0_3 a0_0 a0_1 a0_2 (x136003_1 ++ [(⟨t137, t138, t139, t140⟩ : S24)])) else (none)) else (some (a0_0, a0_1, a0_2, x136003_1, false))) = some (r1, r2, r3, r4, r5) := H
            have A25 := Aside0.mk A250
            clear A250
            by_cases c26 : t143 = true
            · subst c26
              have H1 : (if x136003_1.length < 2513169434916 then (vinculumlaw03_back.l0 k1 a1 (wrap64 (x7_1 + 1)) a0_0 a0_1 a0_2 l0_3 a0_0 a0_1 a0_2 (x136003_1 ++ [(⟨t137, t138, t139, t140⟩ : S24)])) else (none)) = some (r1, r2, r3, r4, r5) := by rw [if_pos rfl] at H; exact H
              clear H
              have H := H1
              clear H1
              by_cases c27 : x136003_1.length < 2513169434916
              · rw [if_pos c27] at H
                have LMc27 := Aside0.mk c27
                clear c27
                obtain ⟨y145, hy145⟩ : ∃ y_ : List (S24), y_ = (x136003_1 ++ [(⟨t137, t138, t139, t140⟩ : S24)]) := ⟨_, rfl⟩
                replace H : (vinculumlaw03_back.l0 k1 a1 (wrap64 (x7_1 + 1)) a0_0 a0_1 a0_2 l0_3 a0_0 a0_1 a0_2 y145) = some (r1, r2, r3, r4, r5) := by first | (rw [hy145]; with_reducible exact H) | (have H2_ := (Option.bind_some _ _).symm.trans H; rw [hy145]; with_reducible exact H2_) | (have H2_ := (Option.bind_some _ _).symm.trans H; with_reducible exact H2_) | with_reducible exact H | (rw [hy145]; exact H) | exact H
                have Ny145 := Aside0.mk hy145
                clear hy145
                have H' := Aside0.mk H
                clear H
                have hnb28 := NB133_134.out
                have hnc28 := NB134_133.out
                have hnb29 := NB133_135.out
                have hnc29 := NB135_133.out
                have hcz30_0 : wr.cell? ⟨gb133, 0, none⟩ = some (.int .i64 a0_0) := (blk_cell BK133.out 0).trans rfl
                have hcz30_1 : wr.cell? ⟨gb133, 1, none⟩ = some (.int .i64 a0_1) := (blk_cell BK133.out 1).trans rfl
                have hcz30_2 : wr.cell? ⟨gb133, 2, none⟩ = some (.string a0_2) := (blk_cell BK133.out 2).trans rfl
                have hcz30_3 : wr.cell? ⟨gb133, 3, none⟩ = some (.slice A0_3 l0_3.length c0_3) := (blk_cell BK133.out 3).trans rfl
                have hfz30_0 := blk_frozen BK133.out 0
                have hfz30_1 := blk_frozen BK133.out 1
                have hfz30_2 := blk_frozen BK133.out 2
                have hfz30_3 := blk_frozen BK133.out 3
                have p136 : 0 ≤ (x7_1 : Int) := of_decide_eq_true (by first | (with_reducible assumption) | assumption)
                have q136 : x7_1 < (l0_3.length : Int) := of_decide_eq_true (by first | (with_reducible assumption) | assumption)
                obtain ⟨ad136, A136_3, c136_3, e136, hx136_0, hx136_1, hx136_2, hx136_3, hl136_3, hi136_3⟩ := at_T29 HR0_3.out x7_1 p136 q136
                cases e136
                replace hx136_0 := (HB.out.cell (World.block_lt_of_cell? w _ hx136_0)).trans hx136_0
                replace hx136_1 := (HB.out.cell (World.block_lt_of_cell? w _ hx136_1)).trans hx136_1
                replace hx136_2 := (HB.out.cell (World.block_lt_of_cell? w _ hx136_2)).trans hx136_2
                replace hx136_3 := (HB.out.cell (World.block_lt_of_cell? w _ hx136_3)).trans hx136_3
                have HR136_3 := Aside0.mk hi136_3
                have HC136_3 := Aside0.mk hl136_3
                clear hi136_3 hl136_3
                replace p136 := eq_true p136
                replace q136 := eq_true q136
                go_wp2_with (first | ((with_reducible refine gate_callee (f := 24) rfl ?_); refine goesL_ (some 37) rfl rfl Try.func24 (by kernel_rfl) rfl #[.agg #[.int .i64 ((rd_T29 l0_3 x7_1).f0), .int .i64 ((rd_T29 l0_3 x7_1).f1), .string ((rd_T29 l0_3 x7_1).f2), .slice A136_3 ((rd_T29 l0_3 x7_1).f3).length c136_3], .int .i64 a1] rfl (by (try simp only [List.map_toArray, List.map_cons, List.map_nil]); first | done | rfl | (simp only [List.length_drop, List.length_take]; rfl)) ?_; (with_reducible refine (ih k1 (by have := HK1.out; omega) ((rd_T29 l0_3 x7_1).f0) ((rd_T29 l0_3 x7_1).f1) ((rd_T29 l0_3 x7_1).f2) _ _ ((rd_T29 l0_3 x7_1).f3) a1 t137 t138 t139 t140 true _ ?side1 ?side2 A25.out).mono ?_); (case side1 => repeat (first | exact (Kd.C_below HR136_3.out HB.out) | (with_reducible refine Kd.C_alloc ?_ _) | (with_reducible refine Kd.C_drewN ?_ _) | (with_reducible refine Kd.C_drew ?_))); (case side2 => exact HC136_3.out); rintro e w31 ⟨v141, rfl, ho0, hb⟩; refine ⟨_, rfl, ?_⟩; have n0_ := Aside0.mk (Kd.R_elder' (by (with_reducible repeat (first | apply Kd.R_alloc | apply Kd.R_drewN | apply Kd.R_drew)); exact HO_136003.out) (Kd.R_base ho0) hb); have n1_ := Aside0.mk (Kd.R_lower (Kd.R_newB (Kd.R_newB (Kd.R_new' ho0 (Kd.R_lt (by (with_reducible repeat (first | apply Kd.R_alloc | apply Kd.R_drewN | apply Kd.R_drew)); exact HO_136003.out))) (g := gb134) (o := .cells #[.int .i64 x135000_1, .int .i64 x135001_1, .string x135002_1, .slice none 0 0] 24 (0, 0)) (by (with_reducible repeat (first | refine blk_drewN ?_ _ | refine blk_drew ?_ | refine blk_alloc ?_ _)); exact BK134.out)) (g := gb135) (o := .cells #[.int .i64 a0_0, .int .i64 a0_1, .string a0_2, u136003] 24 (0, 0)) (by (with_reducible repeat (first | refine blk_drewN ?_ _ | refine blk_drew ?_ | refine blk_alloc ?_ _)); exact BK135.out)) (below_size (by repeat (first | (with_reducible first | exact HB.out | apply below_alloc | apply pw_below_drewN | apply below_drew1 | refine below_set ?_ GE133.out | refine below_set ?_ GE134.out | refine below_set ?_ GE135.out) | exact HB.out)))); have n2_ := Aside0.mk (blk_below (g := gb133) (o := .cells #[.int .i64 a0_0, .int .i64 a0_1, .string a0_2, .slice (some ad136) l0_3.length c0_3] 29 (0, 0)) (by (with_reducible repeat (first | refine blk_drewN ?_ _ | refine blk_drew ?_ | refine blk_alloc ?_ _)); exact BK133.out) hb); have n3_ := Aside0.mk (blk_below (g := gb134) (o := .cells #[.int .i64 x135000_1, .int .i64 x135001_1, .string x135002_1, .slice none 0 0] 24 (0, 0)) (by (with_reducible repeat (first | refine blk_drewN ?_ _ | refine blk_drew ?_ | refine blk_alloc ?_ _)); exact BK134.out) hb); have n4_ := Aside0.mk (blk_below (g := gb135) (o := .cells #[.int .i64 a0_0, .int .i64 a0_1, .string a0_2, u136003] 24 (0, 0)) (by (with_reducible repeat (first | refine blk_drewN ?_ _ | refine blk_drew ?_ | refine blk_alloc ?_ _)); exact BK135.out) hb); have n5_ := Aside0.mk (below_step (by repeat (first | (with_reducible first | exact HB.out | apply below_alloc | apply pw_below_drewN | apply below_drew1 | refine below_set ?_ GE133.out | refine below_set ?_ GE134.out | refine below_set ?_ GE135.out) | exact HB.out)) hb); clear HO_136003; clear BK133; clear BK134; clear BK135; clear HB; have HO_136003 := n0_; have HO142 := n1_; have BK133 := n2_; have BK134 := n3_; have BK135 := n4_; have HB := n5_; clear n0_ n1_ n2_ n3_ n4_ n5_; (try clear hb); (try clear hb2); (try clear hk); (try clear hi); (try clear ho0)) | ((with_reducible refine gate_dst (N := 8) rfl ?_); refine box_event ?hg (N := 8) ?hd (cs := #[.int .i64 0, .int .i64 0, .string (⟨#[]⟩ : ByteArray), .slice none 0 0]) (t := 24) ?hr ?_; (case hd => rfl); (case hg => rfl); (case hr => first | (go_simp; done) | (go_simp; rfl)); intro gb144 hg w32 hbox hb; have n0_ := Aside0.mk (Kd.R_below (Kd.R_elderB (by (with_reducible repeat (first | apply Kd.R_alloc | apply Kd.R_drewN | apply Kd.R_drew)); exact HO_136003.out) gb144 (Nat.le_of_eq hg.symm)) hb); have n1_ := Aside0.mk (Kd.R_below (Kd.R_elderB (by (with_reducible repeat (first | apply Kd.R_alloc | apply Kd.R_drewN | apply Kd.R_drew)); exact HO142.out) gb144 (Nat.le_of_eq hg.symm)) hb); have n2_ := Aside0.mk (blk_below (g := gb133) (o := .cells #[.int .i64 a0_0, .int .i64 a0_1, .string a0_2, .slice (some ad136) l0_3.length c0_3] 29 (0, 0)) (by (with_reducible repeat (first | refine blk_drewN ?_ _ | refine blk_drew ?_ | refine blk_alloc ?_ _)); exact BK133.out) hb); have n3_ := Aside0.mk (blk_below (g := gb134) (o := .cells #[.int .i64 x135000_1, .int .i64 x135001_1, .string x135002_1, .slice none 0 0] 24 (0, 0)) (by (with_reducible repeat (first | refine blk_drewN ?_ _ | refine blk_drew ?_ | refine blk_alloc ?_ _)); exact BK134.out) hb); have n4_ := Aside0.mk (blk_below (g := gb135) (o := .cells #[.int .i64 a0_0, .int .i64 a0_1, .string a0_2, u136003] 24 (0, 0)) (by (with_reducible repeat (first | refine blk_drewN ?_ _ | refine blk_drew ?_ | refine blk_alloc ?_ _)); exact BK135.out) hb); have n5_ := Aside0.mk (below_step (by repeat (first | (with_reducible first | exact HB.out | apply below_alloc | apply pw_below_drewN | apply below_drew1 | refine below_set ?_ GE133.out | refine below_set ?_ GE134.out | refine below_set ?_ GE135.out) | exact HB.out)) hb); have n6_ := Aside0.mk (hbox); have n7_ := Aside0.mk ((by rw [hg]; exact (below_size (by repeat (first | (with_reducible first | exact HB.out | apply below_alloc | apply pw_below_drewN | apply below_drew1 | refine below_set ?_ GE133.out | refine below_set ?_ GE134.out | refine below_set ?_ GE135.out) | exact HB.out))) : w.heap.size ≤ gb144)); have n8_ := Aside0.mk ((by rw [hg]; exact (below_size (by repeat (first | (with_reducible first | exact HB.out | apply below_alloc | apply pw_below_drewN | apply below_drew1 | refine below_set ?_ GE133.out | refine below_set ?_ GE134.out | refine below_set ?_ GE135.out) | exact HB.out))) : w.heap.size ≤ gb144)); have n9_ := Aside0.mk ((by rw [hg]; exact Nat.ne_of_lt (blk_lt (g := gb133) (o := .cells #[.int .i64 a0_0, .int .i64 a0_1, .string a0_2, .slice (some ad136) l0_3.length c0_3] 29 (0, 0)) (by (with_reducible repeat (first | refine blk_drewN ?_ _ | refine blk_drew ?_ | refine blk_alloc ?_ _)); exact BK133.out)) : gb133 ≠ gb144)); have n10_ := Aside0.mk ((by rw [hg]; exact Nat.ne_of_gt (blk_lt (g := gb133) (o := .cells #[.int .i64 a0_0, .int .i64 a0_1, .string a0_2, .slice (some ad136) l0_3.length c0_3] 29 (0, 0)) (by (with_reducible repeat (first | refine blk_drewN ?_ _ | refine blk_drew ?_ | refine blk_alloc ?_ _)); exact BK133.out)) : gb144 ≠ gb133)); have n11_ := Aside0.mk ((by rw [hg]; exact Nat.ne_of_lt (blk_lt (g := gb134) (o := .cells #[.int .i64 x135000_1, .int .i64 x135001_1, .string x135002_1, .slice none 0 0] 24 (0, 0)) (by (with_reducible repeat (first | refine blk_drewN ?_ _ | refine blk_drew ?_ | refine blk_alloc ?_ _)); exact BK134.out)) : gb134 ≠ gb144)); have n12_ := Aside0.mk ((by rw [hg]; exact Nat.ne_of_gt (blk_lt (g := gb134) (o := .cells #[.int .i64 x135000_1, .int .i64 x135001_1, .string x135002_1, .slice none 0 0] 24 (0, 0)) (by (with_reducible repeat (first | refine blk_drewN ?_ _ | refine blk_drew ?_ | refine blk_alloc ?_ _)); exact BK134.out)) : gb144 ≠ gb134)); have n13_ := Aside0.mk ((by rw [hg]; exact Nat.ne_of_lt (blk_lt (g := gb135) (o := .cells #[.int .i64 a0_0, .int .i64 a0_1, .string a0_2, u136003] 24 (0, 0)) (by (with_reducible repeat (first | refine blk_drewN ?_ _ | refine blk_drew ?_ | refine blk_alloc ?_ _)); exact BK135.out)) : gb135 ≠ gb144)); have n14_ := Aside0.mk ((by rw [hg]; exact Nat.ne_of_gt (blk_lt (g := gb135) (o := .cells #[.int .i64 a0_0, .int .i64 a0_1, .string a0_2, u136003] 24 (0, 0)) (by (with_reducible repeat (first | refine blk_drewN ?_ _ | refine blk_drew ?_ | refine blk_alloc ?_ _)); exact BK135.out)) : gb144 ≠ gb135)); clear HO_136003; clear HO142; clear BK133; clear BK134; clear BK135; clear HB; have HO_136003 := n0_; have HO142 := n1_; have BK133 := n2_; have BK134 := n3_; have BK135 := n4_; have HB := n5_; have BK144 := n6_; have GW144 := n7_; have GE144 := n8_; have NB133_144 := n9_; have NB144_133 := n10_; have NB134_144 := n11_; have NB144_134 := n12_; have NB135_144 := n13_; have NB144_135 := n14_; clear n0_ n1_ n2_ n3_ n4_ n5_ n6_ n7_ n8_ n9_ n10_ n11_ n12_ n13_ n14_; clear hb hbox hg; have hnb33 := NB144_133.out; have hnc33 := NB133_144.out; have hnb34 := NB144_134.out; have hnc34 := NB134_144.out; have hnb35 := NB144_135.out; have hnc35 := NB135_144.out; have hcz36_0 : w32.cell? ⟨gb144, 0, none⟩ = some (.int .i64 0) := (blk_cell BK144.out 0).trans rfl; have hcz36_1 : w32.cell? ⟨gb144, 1, none⟩ = some (.int .i64 0) := (blk_cell BK144.out 1).trans rfl; have hcz36_2 : w32.cell? ⟨gb144, 2, none⟩ = some (.string (⟨#[]⟩ : ByteArray)) := (blk_cell BK144.out 2).trans rfl; have hcz36_3 : w32.cell? ⟨gb144, 3, none⟩ = some (.slice none 0 0) := (blk_cell BK144.out 3).trans rfl; have hfz36_0 := blk_frozen BK144.out 0; have hfz36_1 := blk_frozen BK144.out 1; have hfz36_2 := blk_frozen BK144.out 2; have hfz36_3 := blk_frozen BK144.out 3; obtain ⟨Ao37, co37, eo37⟩ := Kd.R_slice HO142.out; subst eo37) | ((with_reducible refine gate_store (t := 24) (p := 8) rfl ?_); refine store_event (t := 24) (p := 8) (v := ?vo_w38) (w1 := ((((w32.setCell ⟨gb144, 0, none⟩ (.int .i64 t137)).setCell ⟨gb144, 1, none⟩ (.int .i64 t138)).setCell ⟨gb144, 2, none⟩ (.string t139)).setCell ⟨gb144, 3, none⟩ (.slice Ao37 t140.length co37))) ?hg ?ho ?hn ?hr ?_; (case ho => rfl); (case hg => rfl); (case hn => rfl); (case hr => first | (go_simp; done) | (go_simp; rfl)); intro w38 hw; have n0_ : Aside0 (Kd.R k24 24 w38 w.heap.size (fun k_ => some k_ ≠ (.slice Ao37 t140.length co37 : Value).ownBlock ∧ k_ ≠ gb134 ∧ k_ ≠ gb135 ∧ k_ ≠ gb144) u136003 x136003_1) := ⟨(by rw [hw]; exact (by (with_reducible repeat (first | apply Kd.R_alloc | apply Kd.R_drewN | apply Kd.R_drew)); exact Kd.R_mono (Kd.R_far (p := ⟨gb144, 3, none⟩) (Kd.R_far (p := ⟨gb144, 2, none⟩) (Kd.R_far (p := ⟨gb144, 1, none⟩) (Kd.R_far (p := ⟨gb144, 0, none⟩) (Kd.R_mono HO_136003.out (fun k_ hk => (⟨hk, hk.2⟩ : _ ∧ k_ ≠ gb144))) (fun _ hk => hk.2) (.int .i64 t137)) (fun _ hk => hk.2) (.int .i64 t138)) (fun _ hk => hk.2) (.string t139)) (fun _ hk => hk.2) (.slice Ao37 t140.length co37)) (fun _ hk => ⟨hk.1.1.2, ⟨hk.1.1.1.1, ⟨hk.1.1.1.2, hk.1.2⟩⟩⟩)))⟩; have n1_ : Aside0 (Kd.R k24 24 w38 w.heap.size (fun k_ => some k_ ≠ (u136003 : Value).ownBlock ∧ k_ ≠ gb134 ∧ k_ ≠ gb135 ∧ k_ ≠ gb144) (.slice Ao37 t140.length co37) t140) := ⟨(by rw [hw]; exact (by (with_reducible repeat (first | apply Kd.R_alloc | apply Kd.R_drewN | apply Kd.R_drew)); exact Kd.R_mono (Kd.R_far (p := ⟨gb144, 3, none⟩) (Kd.R_far (p := ⟨gb144, 2, none⟩) (Kd.R_far (p := ⟨gb144, 1, none⟩) (Kd.R_far (p := ⟨gb144, 0, none⟩) (Kd.R_mono HO142.out (fun k_ hk => (⟨hk, hk.2⟩ : _ ∧ k_ ≠ gb144))) (fun _ hk => hk.2) (.int .i64 t137)) (fun _ hk => hk.2) (.int .i64 t138)) (fun _ hk => hk.2) (.string t139)) (fun _ hk => hk.2) (.slice Ao37 t140.length co37)) (fun _ hk => ⟨hk.1.1.1.1.2, ⟨hk.1.1.1.2, ⟨hk.1.1.2, hk.1.2⟩⟩⟩)))⟩; have n2_ : Aside0 (w38.heap[gb133]? = some (.cells #[.int .i64 a0_0, .int .i64 a0_1, .string a0_2, .slice (some ad136) l0_3.length c0_3] 29 (0, 0))) := ⟨(by rw [hw]; exact (by (with_reducible repeat (first | refine blk_drewN ?_ _ | refine blk_drew ?_ | refine blk_alloc ?_ _)); refine blk_far ?_ NB133_144.out _; (with_reducible repeat (first | refine blk_drewN ?_ _ | refine blk_drew ?_ | refine blk_alloc ?_ _)); refine blk_far ?_ NB133_144.out _; (with_reducible repeat (first | refine blk_drewN ?_ _ | refine blk_drew ?_ | refine blk_alloc ?_ _)); refine blk_far ?_ NB133_144.out _; (with_reducible repeat (first | refine blk_drewN ?_ _ | refine blk_drew ?_ | refine blk_alloc ?_ _)); refine blk_far ?_ NB133_144.out _; (with_reducible repeat (first | refine blk_drewN ?_ _ | refine blk_drew ?_ | refine blk_alloc ?_ _)); exact BK133.out))⟩; have n3_ : Aside0 (w38.heap[gb134]? = some (.cells #[.int .i64 x135000_1, .int .i64 x135001_1, .string x135002_1, .slice none 0 0] 24 (0, 0))) := ⟨(by rw [hw]; exact (by (with_reducible repeat (first | refine blk_drewN ?_ _ | refine blk_drew ?_ | refine blk_alloc ?_ _)); refine blk_far ?_ NB134_144.out _; (with_reducible repeat (first | refine blk_drewN ?_ _ | refine blk_drew ?_ | refine blk_alloc ?_ _)); refine blk_far ?_ NB134_144.out _; (with_reducible repeat (first | refine blk_drewN ?_ _ | refine blk_drew ?_ | refine blk_alloc ?_ _)); refine blk_far ?_ NB134_144.out _; (with_reducible repeat (first | refine blk_drewN ?_ _ | refine blk_drew ?_ | refine blk_alloc ?_ _)); refine blk_far ?_ NB134_144.out _; (with_reducible repeat (first | refine blk_drewN ?_ _ | refine blk_drew ?_ | refine blk_alloc ?_ _)); exact BK134.out))⟩; have n4_ : Aside0 (w38.heap[gb135]? = some (.cells #[.int .i64 a0_0, .int .i64 a0_1, .string a0_2, u136003] 24 (0, 0))) := ⟨(by rw [hw]; exact (by (with_reducible repeat (first | refine blk_drewN ?_ _ | refine blk_drew ?_ | refine blk_alloc ?_ _)); refine blk_far ?_ NB135_144.out _; (with_reducible repeat (first | refine blk_drewN ?_ _ | refine blk_drew ?_ | refine blk_alloc ?_ _)); refine blk_far ?_ NB135_144.out _; (with_reducible repeat (first | refine blk_drewN ?_ _ | refine blk_drew ?_ | refine blk_alloc ?_ _)); refine blk_far ?_ NB135_144.out _; (with_reducible repeat (first | refine blk_drewN ?_ _ | refine blk_drew ?_ | refine blk_alloc ?_ _)); refine blk_far ?_ NB135_144.out _; (with_reducible repeat (first | refine blk_drewN ?_ _ | refine blk_drew ?_ | refine blk_alloc ?_ _)); exact BK135.out))⟩; have n5_ : Aside0 (w38.heap[gb144]? = some (.cells #[.int .i64 t137, .int .i64 t138, .string t139, .slice Ao37 t140.length co37] 24 (0, 0))) := ⟨(by rw [hw]; exact (by (with_reducible repeat (first | refine blk_drewN ?_ _ | refine blk_drew ?_ | refine blk_alloc ?_ _)); refine blk_put (cs := #[.int .i64 t137, .int .i64 t138, .string t139, .slice none 0 0]) ?_ 3 _ rfl; (with_reducible repeat (first | refine blk_drewN ?_ _ | refine blk_drew ?_ | refine blk_alloc ?_ _)); refine blk_put (cs := #[.int .i64 t137, .int .i64 t138, .string (⟨#[]⟩ : ByteArray), .slice none 0 0]) ?_ 2 _ rfl; (with_reducible repeat (first | refine blk_drewN ?_ _ | refine blk_drew ?_ | refine blk_alloc ?_ _)); refine blk_put (cs := #[.int .i64 t137, .int .i64 0, .string (⟨#[]⟩ : ByteArray), .slice none 0 0]) ?_ 1 _ rfl; (with_reducible repeat (first | refine blk_drewN ?_ _ | refine blk_drew ?_ | refine blk_alloc ?_ _)); refine blk_put (cs := #[.int .i64 0, .int .i64 0, .string (⟨#[]⟩ : ByteArray), .slice none 0 0]) ?_ 0 _ rfl; (with_reducible repeat (first | refine blk_drewN ?_ _ | refine blk_drew ?_ | refine blk_alloc ?_ _)); exact BK144.out))⟩; have n6_ : Aside0 (Below w.heap.size w w38) := ⟨(by rw [hw]; exact (by repeat (first | (with_reducible first | exact HB.out | apply below_alloc | apply pw_below_drewN | apply below_drew1 | refine below_set ?_ GE133.out | refine below_set ?_ GE134.out | refine below_set ?_ GE135.out | refine below_set ?_ GE144.out) | exact HB.out)))⟩; clear hw; clear HO_136003; clear HO142; clear BK133; clear BK134; clear BK135; clear BK144; clear HB; have HO_136003 := n0_; have HO142 := n1_; have BK133 := n2_; have BK134 := n3_; have BK135 := n4_; have BK144 := n5_; have HB := n6_; clear n0_ n1_ n2_ n3_ n4_ n5_ n6_; have hnb39 := NB135_134.out; have hnc39 := NB134_135.out; have hcz40_0 : w38.cell? ⟨gb135, 0, none⟩ = some (.int .i64 a0_0) := (blk_cell BK135.out 0).trans rfl; have hcz40_1 : w38.cell? ⟨gb135, 1, none⟩ = some (.int .i64 a0_1) := (blk_cell BK135.out 1).trans rfl; have hcz40_2 : w38.cell? ⟨gb135, 2, none⟩ = some (.string a0_2) := (blk_cell BK135.out 2).trans rfl; have hcz40_3 : w38.cell? ⟨gb135, 3, none⟩ = some (u136003) := (blk_cell BK135.out 3).trans rfl; have hfz40_0 := blk_frozen BK135.out 0; have hfz40_1 := blk_frozen BK135.out 1; have hfz40_2 := blk_frozen BK135.out 2; have hfz40_3 := blk_frozen BK135.out 3; have hcz41_0 : w38.cell? ⟨gb144, 0, none⟩ = some (.int .i64 t137) := (blk_cell BK144.out 0).trans rfl; have hcz41_1 : w38.cell? ⟨gb144, 1, none⟩ = some (.int .i64 t138) := (blk_cell BK144.out 1).trans rfl; have hcz41_2 : w38.cell? ⟨gb144, 2, none⟩ = some (.string t139) := (blk_cell BK144.out 2).trans rfl; have hcz41_3 : w38.cell? ⟨gb144, 3, none⟩ = some (.slice Ao37 t140.length co37) := (blk_cell BK144.out 3).trans rfl; have hfz41_0 := blk_frozen BK144.out 0; have hfz41_1 := blk_frozen BK144.out 1; have hfz41_2 := blk_frozen BK144.out 2; have hfz41_3 := blk_frozen BK144.out 3) | ((with_reducible refine gate_builtin (b := .append) (xs := #[.tmp 44, .tmp 46]) rfl ?_); at_builtin; refine Kd.R_append k24 (w0 := w) w.heap.size rfl (.tmp 44) (.tmp 46) 22 24 (.agg #[(.int .i64 0), (.int .i64 0), (.string ⟨#[]⟩), (.slice none 0 0)]) 56 rfl Try.underlying22 info24 rfl (by decide) (by omega) u136003 x136003_1 (⟨t137, t138, t139, t140⟩ : S24) [.int .i64 t137, .int .i64 t138, .string t139, .slice Ao37 t140.length co37] (fun k_ => k_ ≠ gb134 ∧ k_ ≠ gb135 ∧ k_ ≠ gb144) (fun k_ => ((fun k_ => k_ ≠ gb134 ∧ k_ ≠ gb135 ∧ k_ ≠ gb144)) k_ ∧ some k_ ≠ (u136003 : Value).ownBlock) rfl rfl ?aP (fun _ hk => hk) ?aF ?aO ?aB ?aS ?aL ?_; (case aP => exact k24_mkM _ _ _ (⟨t137, t138, t139, t140⟩ : S24) (Kd.R_mono (HO142.out) (fun k_ hk => ⟨⟨hk.2.1, ⟨hk.2.2.1, hk.2.2.2⟩⟩, hk.1⟩))); (case aB => exact (by repeat (first | (with_reducible first | exact HB.out | apply below_alloc | apply pw_below_drewN | apply below_drew1 | refine below_set ?_ GE133.out | refine below_set ?_ GE134.out | refine below_set ?_ GE135.out | refine below_set ?_ GE144.out) | exact HB.out))); (case aF => exact (fun k_ hk => ⟨Kd.freshB (g := gb134) (o := .cells #[.int .i64 x135000_1, .int .i64 x135001_1, .string x135002_1, .slice none 0 0] 24 (0, 0)) (by (with_reducible repeat (first | refine blk_drewN ?_ _ | refine blk_drew ?_ | refine blk_alloc ?_ _)); exact BK134.out) k_ hk, Kd.freshB (g := gb135) (o := .cells #[.int .i64 a0_0, .int .i64 a0_1, .string a0_2, u136003] 24 (0, 0)) (by (with_reducible repeat (first | refine blk_drewN ?_ _ | refine blk_drew ?_ | refine blk_alloc ?_ _)); exact BK135.out) k_ hk, Kd.freshB (g := gb144) (o := .cells #[.int .i64 t137, .int .i64 t138, .string t139, .slice Ao37 t140.length co37] 24 (0, 0)) (by (with_reducible repeat (first | refine blk_drewN ?_ _ | refine blk_drew ?_ | refine blk_alloc ?_ _)); exact BK144.out) k_ hk⟩)); (case aO => exact (by (with_reducible repeat (first | apply Kd.R_alloc | apply Kd.R_drewN | apply Kd.R_drew)); exact Kd.R_mono HO_136003.out (fun _ hk => ⟨hk.2.1, ⟨hk.2.2.1, hk.2.2.2⟩⟩))); (case aS => exact (below_size (by repeat (first | (with_reducible first | exact HB.out | apply below_alloc | apply pw_below_drewN | apply below_drew1 | refine below_set ?_ GE133.out | refine below_set ?_ GE134.out | refine below_set ?_ GE135.out | refine below_set ?_ GE144.out) | exact HB.out)))); (case aL => have := LMc27.out; omega); intro v146 w42 ho hb hg hat; rw [← Ny145.out] at ho; have n0_ := Aside0.mk (blk_grown (g := gb133) (o := .cells #[.int .i64 a0_0, .int .i64 a0_1, .string a0_2, .slice (some ad136) l0_3.length c0_3] 29 (0, 0)) (by (with_reducible repeat (first | refine blk_drewN ?_ _ | refine blk_drew ?_ | refine blk_alloc ?_ _)); exact BK133.out) hg (Kd.R_ne HO_136003.out BK133.out (by decide))); have n1_ := Aside0.mk (blk_grown (g := gb134) (o := .cells #[.int .i64 x135000_1, .int .i64 x135001_1, .string x135002_1, .slice none 0 0] 24 (0, 0)) (by (with_reducible repeat (first | refine blk_drewN ?_ _ | refine blk_drew ?_ | refine blk_alloc ?_ _)); exact BK134.out) hg (Kd.R_away HO_136003.out (fun _ hk => hk.2.1))); have n2_ := Aside0.mk (blk_grown (g := gb135) (o := .cells #[.int .i64 a0_0, .int .i64 a0_1, .string a0_2, u136003] 24 (0, 0)) (by (with_reducible repeat (first | refine blk_drewN ?_ _ | refine blk_drew ?_ | refine blk_alloc ?_ _)); exact BK135.out) hg (Kd.R_away HO_136003.out (fun _ hk => hk.2.2.1))); have n3_ := Aside0.mk (blk_grown (g := gb144) (o := .cells #[.int .i64 t137, .int .i64 t138, .string t139, .slice Ao37 t140.length co37] 24 (0, 0)) (by (with_reducible repeat (first | refine blk_drewN ?_ _ | refine blk_drew ?_ | refine blk_alloc ?_ _)); exact BK144.out) hg (Kd.R_away HO_136003.out (fun _ hk => hk.2.2.2))); have n4_ := Aside0.mk (hb); have n5_ := Aside0.mk (ho); clear BK133; clear BK134; clear BK135; clear BK144; clear HB; clear HO_136003; clear HO142; have BK133 := n0_; have BK134 := n1_; have BK135 := n2_; have BK144 := n3_; have HB := n4_; have HO147 := n5_; clear n0_ n1_ n2_ n3_ n4_ n5_; clear ho hb hg hat; obtain ⟨Ao43, co43, eo43⟩ := Kd.R_slice HO147.out; subst eo43; have hcz44_0 : w42.cell? ⟨gb135, 0, none⟩ = some (.int .i64 a0_0) := (blk_cell BK135.out 0).trans rfl; have hcz44_1 : w42.cell? ⟨gb135, 1, none⟩ = some (.int .i64 a0_1) := (blk_cell BK135.out 1).trans rfl; have hcz44_2 : w42.cell? ⟨gb135, 2, none⟩ = some (.string a0_2) := (blk_cell BK135.out 2).trans rfl; have hcz44_3 : w42.cell? ⟨gb135, 3, none⟩ = some (u136003) := (blk_cell BK135.out 3).trans rfl; have hfz44_0 := blk_frozen BK135.out 0; have hfz44_1 := blk_frozen BK135.out 1; have hfz44_2 := blk_frozen BK135.out 2; have hfz44_3 := blk_frozen BK135.out 3))
                go_roundg k1
                case measure => have := HK1.out; omega
                case rel => exact ⟨(wrap64 (x7_1 + 1)), (x135000_1), (x135001_1), (x135002_1), (y145), (.slice Ao43 y145.length co43), (by first | rfl | (simp; done) | (simp [*]; done) | (simp [ne_nil_bool]; done)), H', ⟨by have := HK1.out; omega⟩, ⟨by (with_reducible repeat (first | apply Kd.R_alloc | apply Kd.R_drewN | apply Kd.R_drew)); exact Kd.R_mono (Kd.R_far (p := ⟨gb135, 3, none⟩) (Kd.R_mono HO147.out (fun k_ hk => (⟨hk, hk.2.1⟩ : _ ∧ k_ ≠ gb135))) (fun _ hk => hk.2) (.slice Ao43 y145.length co43)) (fun _ hk => ⟨hk.1.1, hk.1.2.1⟩)⟩, ⟨by (with_reducible repeat (first | refine blk_drewN ?_ _ | refine blk_drew ?_ | refine blk_alloc ?_ _)); refine blk_far ?_ NB133_135.out _; (with_reducible repeat (first | refine blk_drewN ?_ _ | refine blk_drew ?_ | refine blk_alloc ?_ _)); exact BK133.out⟩, ⟨by (with_reducible repeat (first | refine blk_drewN ?_ _ | refine blk_drew ?_ | refine blk_alloc ?_ _)); refine blk_far ?_ NB134_135.out _; (with_reducible repeat (first | refine blk_drewN ?_ _ | refine blk_drew ?_ | refine blk_alloc ?_ _)); exact BK134.out⟩, ⟨by (with_reducible repeat (first | refine blk_drewN ?_ _ | refine blk_drew ?_ | refine blk_alloc ?_ _)); refine blk_put (cs := #[.int .i64 a0_0, .int .i64 a0_1, .string a0_2, u136003]) ?_ 3 _ rfl; (with_reducible repeat (first | refine blk_drewN ?_ _ | refine blk_drew ?_ | refine blk_alloc ?_ _)); exact BK135.out⟩, ⟨by repeat (first | (with_reducible first | exact HB.out | apply below_alloc | apply pw_below_drewN | apply below_drew1 | refine below_set ?_ GE133.out | refine below_set ?_ GE134.out | refine below_set ?_ GE135.out | refine below_set ?_ GE144.out) | exact HB.out)⟩⟩
              · rw [if_neg c27] at H
                exact absurd H (by simp)
            · replace c26 := Bool.eq_false_iff.mpr c26
              subst c26
              have H1 : (some (a0_0, a0_1, a0_2, x136003_1, false)) = some (r1, r2, r3, r4, r5) := by rw [if_neg (show ¬ (false = true) by decide)] at H; exact H
              clear H
              have H := H1
              clear H1
              simp only [Option.some.injEq, Prod.mk.injEq] at H
              obtain ⟨rfl, rfl, rfl, rfl, rfl⟩ := H
              have hnb45 := NB133_134.out
              have hnc45 := NB134_133.out
              have hnb46 := NB133_135.out
              have hnc46 := NB135_133.out
              have hcz47_0 : wr.cell? ⟨gb133, 0, none⟩ = some (.int .i64 a0_0) := (blk_cell BK133.out 0).trans rfl
              have hcz47_1 : wr.cell? ⟨gb133, 1, none⟩ = some (.int .i64 a0_1) := (blk_cell BK133.out 1).trans rfl
              have hcz47_2 : wr.cell? ⟨gb133, 2, none⟩ = some (.string a0_2) := (blk_cell BK133.out 2).trans rfl
              have hcz47_3 : wr.cell? ⟨gb133, 3, none⟩ = some (.slice A0_3 l0_3.length c0_3) := (blk_cell BK133.out 3).trans rfl
              have hfz47_0 := blk_frozen BK133.out 0
              have hfz47_1 := blk_frozen BK133.out 1
              have hfz47_2 := blk_frozen BK133.out 2
              have hfz47_3 := blk_frozen BK133.out 3
              have p136 : 0 ≤ (x7_1 : Int) := of_decide_eq_true (by first | (with_reducible assumption) | assumption)
              have q136 : x7_1 < (l0_3.length : Int) := of_decide_eq_true (by first | (with_reducible assumption) | assumption)
              obtain ⟨ad136, A136_3, c136_3, e136, hx136_0, hx136_1, hx136_2, hx136_3, hl136_3, hi136_3⟩ := at_T29 HR0_3.out x7_1 p136 q136
              cases e136
              replace hx136_0 := (HB.out.cell (World.block_lt_of_cell? w _ hx136_0)).trans hx136_0
              replace hx136_1 := (HB.out.cell (World.block_lt_of_cell? w _ hx136_1)).trans hx136_1
              replace hx136_2 := (HB.out.cell (World.block_lt_of_cell? w _ hx136_2)).trans hx136_2
              replace hx136_3 := (HB.out.cell (World.block_lt_of_cell? w _ hx136_3)).trans hx136_3
              have HR136_3 := Aside0.mk hi136_3
              have HC136_3 := Aside0.mk hl136_3
              clear hi136_3 hl136_3
              replace p136 := eq_true p136
              replace q136 := eq_true q136
              go_wp2_with (first | ((with_reducible refine gate_callee (f := 24) rfl ?_); refine goesL_ (some 37) rfl rfl Try.func24 (by kernel_rfl) rfl #[.agg #[.int .i64 ((rd_T29 l0_3 x7_1).f0), .int .i64 ((rd_T29 l0_3 x7_1).f1), .string ((rd_T29 l0_3 x7_1).f2), .slice A136_3 ((rd_T29 l0_3 x7_1).f3).length c136_3], .int .i64 a1] rfl (by (try simp only [List.map_toArray, List.map_cons, List.map_nil]); first | done | rfl | (simp only [List.length_drop, List.length_take]; rfl)) ?_; (with_reducible refine (ih k1 (by have := HK1.out; omega) ((rd_T29 l0_3 x7_1).f0) ((rd_T29 l0_3 x7_1).f1) ((rd_T29 l0_3 x7_1).f2) _ _ ((rd_T29 l0_3 x7_1).f3) a1 t137 t138 t139 t140 false _ ?side1 ?side2 A25.out).mono ?_); (case side1 => repeat (first | exact (Kd.C_below HR136_3.out HB.out) | (with_reducible refine Kd.C_alloc ?_ _) | (with_reducible refine Kd.C_drewN ?_ _) | (with_reducible refine Kd.C_drew ?_))); (case side2 => exact HC136_3.out); rintro e w48 ⟨v141, rfl, ho0, hb⟩; refine ⟨_, rfl, ?_⟩; have n0_ := Aside0.mk (Kd.R_elder' (by (with_reducible repeat (first | apply Kd.R_alloc | apply Kd.R_drewN | apply Kd.R_drew)); exact HO_136003.out) (Kd.R_base ho0) hb); have n1_ := Aside0.mk (Kd.R_lower (Kd.R_newB (Kd.R_newB (Kd.R_new' ho0 (Kd.R_lt (by (with_reducible repeat (first | apply Kd.R_alloc | apply Kd.R_drewN | apply Kd.R_drew)); exact HO_136003.out))) (g := gb134) (o := .cells #[.int .i64 x135000_1, .int .i64 x135001_1, .string x135002_1, .slice none 0 0] 24 (0, 0)) (by (with_reducible repeat (first | refine blk_drewN ?_ _ | refine blk_drew ?_ | refine blk_alloc ?_ _)); exact BK134.out)) (g := gb135) (o := .cells #[.int .i64 a0_0, .int .i64 a0_1, .string a0_2, u136003] 24 (0, 0)) (by (with_reducible repeat (first | refine blk_drewN ?_ _ | refine blk_drew ?_ | refine blk_alloc ?_ _)); exact BK135.out)) (below_size (by repeat (first | (with_reducible first | exact HB.out | apply below_alloc | apply pw_below_drewN | apply below_drew1 | refine below_set ?_ GE133.out | refine below_set ?_ GE134.out | refine below_set ?_ GE135.out) | exact HB.out)))); have n2_ := Aside0.mk (blk_below (g := gb133) (o := .cells #[.int .i64 a0_0, .int .i64 a0_1, .string a0_2, .slice (some ad136) l0_3.length c0_3] 29 (0, 0)) (by (with_reducible repeat (first | refine blk_drewN ?_ _ | refine blk_drew ?_ | refine blk_alloc ?_ _)); exact BK133.out) hb); have n3_ := Aside0.mk (blk_below (g := gb134) (o := .cells #[.int .i64 x135000_1, .int .i64 x135001_1, .string x135002_1, .slice none 0 0] 24 (0, 0)) (by (with_reducible repeat (first | refine blk_drewN ?_ _ | refine blk_drew ?_ | refine blk_alloc ?_ _)); exact BK134.out) hb); have n4_ := Aside0.mk (blk_below (g := gb135) (o := .cells #[.int .i64 a0_0, .int .i64 a0_1, .string a0_2, u136003] 24 (0, 0)) (by (with_reducible repeat (first | refine blk_drewN ?_ _ | refine blk_drew ?_ | refine blk_alloc ?_ _)); exact BK135.out) hb); have n5_ := Aside0.mk (below_step (by repeat (first | (with_reducible first | exact HB.out | apply below_alloc | apply pw_below_drewN | apply below_drew1 | refine below_set ?_ GE133.out | refine below_set ?_ GE134.out | refine below_set ?_ GE135.out) | exact HB.out)) hb); clear HO_136003; clear BK133; clear BK134; clear BK135; clear HB; have HO_136003 := n0_; have HO142 := n1_; have BK133 := n2_; have BK134 := n3_; have BK135 := n4_; have HB := n5_; clear n0_ n1_ n2_ n3_ n4_ n5_; (try clear hb); (try clear hb2); (try clear hk); (try clear hi); (try clear ho0)) | ((with_reducible refine gate_dst (N := 8) rfl ?_); refine box_event ?hg (N := 8) ?hd (cs := #[.int .i64 0, .int .i64 0, .string (⟨#[]⟩ : ByteArray), .slice none 0 0]) (t := 24) ?hr ?_; (case hd => rfl); (case hg => rfl); (case hr => first | (go_simp; done) | (go_simp; rfl)); intro gb144 hg w49 hbox hb; have n0_ := Aside0.mk (Kd.R_below (Kd.R_elderB (by (with_reducible repeat (first | apply Kd.R_alloc | apply Kd.R_drewN | apply Kd.R_drew)); exact HO_136003.out) gb144 (Nat.le_of_eq hg.symm)) hb); have n1_ := Aside0.mk (Kd.R_below (Kd.R_elderB (by (with_reducible repeat (first | apply Kd.R_alloc | apply Kd.R_drewN | apply Kd.R_drew)); exact HO142.out) gb144 (Nat.le_of_eq hg.symm)) hb); have n2_ := Aside0.mk (blk_below (g := gb133) (o := .cells #[.int .i64 a0_0, .int .i64 a0_1, .string a0_2, .slice (some ad136) l0_3.length c0_3] 29 (0, 0)) (by (with_reducible repeat (first | refine blk_drewN ?_ _ | refine blk_drew ?_ | refine blk_alloc ?_ _)); exact BK133.out) hb); have n3_ := Aside0.mk (blk_below (g := gb134) (o := .cells #[.int .i64 x135000_1, .int .i64 x135001_1, .string x135002_1, .slice none 0 0] 24 (0, 0)) (by (with_reducible repeat (first | refine blk_drewN ?_ _ | refine blk_drew ?_ | refine blk_alloc ?_ _)); exact BK134.out) hb); have n4_ := Aside0.mk (blk_below (g := gb135) (o := .cells #[.int .i64 a0_0, .int .i64 a0_1, .string a0_2, u136003] 24 (0, 0)) (by (with_reducible repeat (first | refine blk_drewN ?_ _ | refine blk_drew ?_ | refine blk_alloc ?_ _)); exact BK135.out) hb); have n5_ := Aside0.mk (below_step (by repeat (first | (with_reducible first | exact HB.out | apply below_alloc | apply pw_below_drewN | apply below_drew1 | refine below_set ?_ GE133.out | refine below_set ?_ GE134.out | refine below_set ?_ GE135.out) | exact HB.out)) hb); have n6_ := Aside0.mk (hbox); have n7_ := Aside0.mk ((by rw [hg]; exact (below_size (by repeat (first | (with_reducible first | exact HB.out | apply below_alloc | apply pw_below_drewN | apply below_drew1 | refine below_set ?_ GE133.out | refine below_set ?_ GE134.out | refine below_set ?_ GE135.out) | exact HB.out))) : w.heap.size ≤ gb144)); have n8_ := Aside0.mk ((by rw [hg]; exact (below_size (by repeat (first | (with_reducible first | exact HB.out | apply below_alloc | apply pw_below_drewN | apply below_drew1 | refine below_set ?_ GE133.out | refine below_set ?_ GE134.out | refine below_set ?_ GE135.out) | exact HB.out))) : w.heap.size ≤ gb144)); have n9_ := Aside0.mk ((by rw [hg]; exact Nat.ne_of_lt (blk_lt (g := gb133) (o := .cells #[.int .i64 a0_0, .int .i64 a0_1, .string a0_2, .slice (some ad136) l0_3.length c0_3] 29 (0, 0)) (by (with_reducible repeat (first | refine blk_drewN ?_ _ | refine blk_drew ?_ | refine blk_alloc ?_ _)); exact BK133.out)) : gb133 ≠ gb144)); have n10_ := Aside0.mk ((by rw [hg]; exact Nat.ne_of_gt (blk_lt (g := gb133) (o := .cells #[.int .i64 a0_0, .int .i64 a0_1, .string a0_2, .slice (some ad136) l0_3.length c0_3] 29 (0, 0)) (by (with_reducible repeat (first | refine blk_drewN ?_ _ | refine blk_drew ?_ | refine blk_alloc ?_ _)); exact BK133.out)) : gb144 ≠ gb133)); have n11_ := Aside0.mk ((by rw [hg]; exact Nat.ne_of_lt (blk_lt (g := gb134) (o := .cells #[.int .i64 x135000_1, .int .i64 x135001_1, .string x135002_1, .slice none 0 0] 24 (0, 0)) (by (with_reducible repeat (first | refine blk_drewN ?_ _ | refine blk_drew ?_ | refine blk_alloc ?_ _)); exact BK134.out)) : gb134 ≠ gb144)); have n12_ := Aside0.mk ((by rw [hg]; exact Nat.ne_of_gt (blk_lt (g := gb134) (o := .cells #[.int .i64 x135000_1, .int .i64 x135001_1, .string x135002_1, .slice none 0 0] 24 (0, 0)) (by (with_reducible repeat (first | refine blk_drewN ?_ _ | refine blk_drew ?_ | refine blk_alloc ?_ _)); exact BK134.out)) : gb144 ≠ gb134)); have n13_ := Aside0.mk ((by rw [hg]; exact Nat.ne_of_lt (blk_lt (g := gb135) (o := .cells #[.int .i64 a0_0, .int .i64 a0_1, .string a0_2, u136003] 24 (0, 0)) (by (with_reducible repeat (first | refine blk_drewN ?_ _ | refine blk_drew ?_ | refine blk_alloc ?_ _)); exact BK135.out)) : gb135 ≠ gb144)); have n14_ := Aside0.mk ((by rw [hg]; exact Nat.ne_of_gt (blk_lt (g := gb135) (o := .cells #[.int .i64 a0_0, .int .i64 a0_1, .string a0_2, u136003] 24 (0, 0)) (by (with_reducible repeat (first | refine blk_drewN ?_ _ | refine blk_drew ?_ | refine blk_alloc ?_ _)); exact BK135.out)) : gb144 ≠ gb135)); clear HO_136003; clear HO142; clear BK133; clear BK134; clear BK135; clear HB; have HO_136003 := n0_; have HO142 := n1_; have BK133 := n2_; have BK134 := n3_; have BK135 := n4_; have HB := n5_; have BK144 := n6_; have GW144 := n7_; have GE144 := n8_; have NB133_144 := n9_; have NB144_133 := n10_; have NB134_144 := n11_; have NB144_134 := n12_; have NB135_144 := n13_; have NB144_135 := n14_; clear n0_ n1_ n2_ n3_ n4_ n5_ n6_ n7_ n8_ n9_ n10_ n11_ n12_ n13_ n14_; clear hb hbox hg; have hnb50 := NB144_133.out; have hnc50 := NB133_144.out; have hnb51 := NB144_134.out; have hnc51 := NB134_144.out; have hnb52 := NB144_135.out; have hnc52 := NB135_144.out; have hcz53_0 : w49.cell? ⟨gb144, 0, none⟩ = some (.int .i64 0) := (blk_cell BK144.out 0).trans rfl; have hcz53_1 : w49.cell? ⟨gb144, 1, none⟩ = some (.int .i64 0) := (blk_cell BK144.out 1).trans rfl; have hcz53_2 : w49.cell? ⟨gb144, 2, none⟩ = some (.string (⟨#[]⟩ : ByteArray)) := (blk_cell BK144.out 2).trans rfl; have hcz53_3 : w49.cell? ⟨gb144, 3, none⟩ = some (.slice none 0 0) := (blk_cell BK144.out 3).trans rfl; have hfz53_0 := blk_frozen BK144.out 0; have hfz53_1 := blk_frozen BK144.out 1; have hfz53_2 := blk_frozen BK144.out 2; have hfz53_3 := blk_frozen BK144.out 3; obtain ⟨Ao54, co54, eo54⟩ := Kd.R_slice HO142.out; subst eo54; have hnb55 := NB135_134.out; have hnc55 := NB134_135.out; have hcz56_0 : w49.cell? ⟨gb135, 0, none⟩ = some (.int .i64 a0_0) := (blk_cell BK135.out 0).trans rfl; have hcz56_1 : w49.cell? ⟨gb135, 1, none⟩ = some (.int .i64 a0_1) := (blk_cell BK135.out 1).trans rfl; have hcz56_2 : w49.cell? ⟨gb135, 2, none⟩ = some (.string a0_2) := (blk_cell BK135.out 2).trans rfl; have hcz56_3 : w49.cell? ⟨gb135, 3, none⟩ = some (u136003) := (blk_cell BK135.out 3).trans rfl; have hfz56_0 := blk_frozen BK135.out 0; have hfz56_1 := blk_frozen BK135.out 1; have hfz56_2 := blk_frozen BK135.out 2; have hfz56_3 := blk_frozen BK135.out 3; have hcz57_0 : w49.cell? ⟨gb134, 0, none⟩ = some (.int .i64 x135000_1) := (blk_cell BK134.out 0).trans rfl; have hcz57_1 : w49.cell? ⟨gb134, 1, none⟩ = some (.int .i64 x135001_1) := (blk_cell BK134.out 1).trans rfl; have hcz57_2 : w49.cell? ⟨gb134, 2, none⟩ = some (.string x135002_1) := (blk_cell BK134.out 2).trans rfl; have hcz57_3 : w49.cell? ⟨gb134, 3, none⟩ = some (.slice none 0 0) := (blk_cell BK134.out 3).trans rfl; have hfz57_0 := blk_frozen BK134.out 0; have hfz57_1 := blk_frozen BK134.out 1; have hfz57_2 := blk_frozen BK134.out 2; have hfz57_3 := blk_frozen BK134.out 3; obtain ⟨Ao58, co58, eo58⟩ := Kd.R_slice HO_136003.out; subst eo58))
              refine bodyPost_ret (results_ct rfl _ _ gb134 24 #[.int .i64 a0_0, .int .i64 a0_1, .string a0_2, .slice Ao58 x136003_1.length co58] (0, 0) _ rfl (by (with_reducible repeat (first | refine blk_drewN ?_ _ | refine blk_drew ?_ | refine blk_alloc ?_ _)); refine blk_put (cs := #[.int .i64 a0_0, .int .i64 a0_1, .string a0_2, .slice none 0 0]) ?_ 3 _ rfl; (with_reducible repeat (first | refine blk_drewN ?_ _ | refine blk_drew ?_ | refine blk_alloc ?_ _)); refine blk_put (cs := #[.int .i64 a0_0, .int .i64 a0_1, .string x135002_1, .slice none 0 0]) ?_ 2 _ rfl; (with_reducible repeat (first | refine blk_drewN ?_ _ | refine blk_drew ?_ | refine blk_alloc ?_ _)); refine blk_put (cs := #[.int .i64 a0_0, .int .i64 x135001_1, .string x135002_1, .slice none 0 0]) ?_ 1 _ rfl; (with_reducible repeat (first | refine blk_drewN ?_ _ | refine blk_drew ?_ | refine blk_alloc ?_ _)); refine blk_put (cs := #[.int .i64 x135000_1, .int .i64 x135001_1, .string x135002_1, .slice none 0 0]) ?_ 0 _ rfl; (with_reducible repeat (first | refine blk_drewN ?_ _ | refine blk_drew ?_ | refine blk_alloc ?_ _)); refine blk_far ?_ NB134_144.out _; (with_reducible repeat (first | refine blk_drewN ?_ _ | refine blk_drew ?_ | refine blk_alloc ?_ _)); refine blk_far ?_ NB134_144.out _; (with_reducible repeat (first | refine blk_drewN ?_ _ | refine blk_drew ?_ | refine blk_alloc ?_ _)); refine blk_far ?_ NB134_144.out _; (with_reducible repeat (first | refine blk_drewN ?_ _ | refine blk_drew ?_ | refine blk_alloc ?_ _)); refine blk_far ?_ NB134_144.out _; (with_reducible repeat (first | refine blk_drewN ?_ _ | refine blk_drew ?_ | refine blk_alloc ?_ _)); exact BK134.out) Try.underlying24 rfl (by kernel_rfl)) rfl ?_
              exact ⟨_, by first | rfl | (simp [errW_none, errW_some] <;> rfl) | (simp [*, errW_none, errW_some] <;> rfl), by (with_reducible repeat (first | apply Kd.R_alloc | apply Kd.R_drewN | apply Kd.R_drew)); exact Kd.R_mono (Kd.R_far (p := ⟨gb134, 3, none⟩) (Kd.R_far (p := ⟨gb134, 2, none⟩) (Kd.R_far (p := ⟨gb134, 1, none⟩) (Kd.R_far (p := ⟨gb134, 0, none⟩) (Kd.R_far (p := ⟨gb144, 3, none⟩) (Kd.R_far (p := ⟨gb144, 2, none⟩) (Kd.R_far (p := ⟨gb144, 1, none⟩) (Kd.R_far (p := ⟨gb144, 0, none⟩) (Kd.R_mono (Kd.R_mono HO_136003.out (fun k_ hk => (⟨hk, hk.2⟩ : _ ∧ k_ ≠ gb144))) (fun k_ hk => (⟨hk, hk.1.1.1.1⟩ : _ ∧ k_ ≠ gb134))) (fun _ hk => hk.1.2) (.int .i64 t137)) (fun _ hk => hk.1.2) (.int .i64 t138)) (fun _ hk => hk.1.2) (.string t139)) (fun _ hk => hk.1.2) (.slice Ao54 t140.length co54)) (fun _ hk => hk.2) (.int .i64 a0_0)) (fun _ hk => hk.2) (.int .i64 a0_1)) (fun _ hk => hk.2) (.string a0_2)) (fun _ hk => hk.2) (.slice Ao58 x136003_1.length co58)) (fun _ hk => trivial), by repeat (first | (with_reducible first | exact HB.out | apply below_alloc | apply pw_below_drewN | apply below_drew1 | refine below_set ?_ GE133.out | refine below_set ?_ GE134.out | refine below_set ?_ GE135.out | refine below_set ?_ GE144.out) | exact HB.out)⟩
          · rw [if_neg c24] at H
            exact absurd H (by simp)
        · rw [if_neg c23] at H
          have c23b0 : decide (x7_1 < (l0_3.length : Int)) = false := decide_eq_false c23
          clear c23
          simp only [Option.some.injEq, Prod.mk.injEq] at H
          obtain ⟨rfl, rfl, rfl, rfl, rfl⟩ := H
          have hnb59 := NB133_134.out
          have hnc59 := NB134_133.out
          have hnb60 := NB133_135.out
          have hnc60 := NB135_133.out
          have hcz61_0 : wr.cell? ⟨gb133, 0, none⟩ = some (.int .i64 a0_0) := (blk_cell BK133.out 0).trans rfl
          have hcz61_1 : wr.cell? ⟨gb133, 1, none⟩ = some (.int .i64 a0_1) := (blk_cell BK133.out 1).trans rfl
          have hcz61_2 : wr.cell? ⟨gb133, 2, none⟩ = some (.string a0_2) := (blk_cell BK133.out 2).trans rfl
          have hcz61_3 : wr.cell? ⟨gb133, 3, none⟩ = some (.slice A0_3 l0_3.length c0_3) := (blk_cell BK133.out 3).trans rfl
          have hfz61_0 := blk_frozen BK133.out 0
          have hfz61_1 := blk_frozen BK133.out 1
          have hfz61_2 := blk_frozen BK133.out 2
          have hfz61_3 := blk_frozen BK133.out 3
          have hnb62 := NB135_134.out
          have hnc62 := NB134_135.out
          have hcz63_0 : wr.cell? ⟨gb135, 0, none⟩ = some (.int .i64 a0_0) := (blk_cell BK135.out 0).trans rfl
          have hcz63_1 : wr.cell? ⟨gb135, 1, none⟩ = some (.int .i64 a0_1) := (blk_cell BK135.out 1).trans rfl
          have hcz63_2 : wr.cell? ⟨gb135, 2, none⟩ = some (.string a0_2) := (blk_cell BK135.out 2).trans rfl
          have hcz63_3 : wr.cell? ⟨gb135, 3, none⟩ = some (u136003) := (blk_cell BK135.out 3).trans rfl
          have hfz63_0 := blk_frozen BK135.out 0
          have hfz63_1 := blk_frozen BK135.out 1
          have hfz63_2 := blk_frozen BK135.out 2
          have hfz63_3 := blk_frozen BK135.out 3
          have hcz64_0 : wr.cell? ⟨gb134, 0, none⟩ = some (.int .i64 x135000_1) := (blk_cell BK134.out 0).trans rfl
          have hcz64_1 : wr.cell? ⟨gb134, 1, none⟩ = some (.int .i64 x135001_1) := (blk_cell BK134.out 1).trans rfl
          have hcz64_2 : wr.cell? ⟨gb134, 2, none⟩ = some (.string x135002_1) := (blk_cell BK134.out 2).trans rfl
          have hcz64_3 : wr.cell? ⟨gb134, 3, none⟩ = some (.slice none 0 0) := (blk_cell BK134.out 3).trans rfl
          have hfz64_0 := blk_frozen BK134.out 0
          have hfz64_1 := blk_frozen BK134.out 1
          have hfz64_2 := blk_frozen BK134.out 2
          have hfz64_3 := blk_frozen BK134.out 3
          obtain ⟨Ao65, co65, eo65⟩ := Kd.R_slice HO_136003.out
          subst eo65
          go_wp2
          refine bodyPost_ret (results_ct rfl _ _ gb134 24 #[.int .i64 a0_0, .int .i64 a0_1, .string a0_2, .slice Ao65 x136003_1.length co65] (0, 0) _ rfl (by (with_reducible repeat (first | refine blk_drewN ?_ _ | refine blk_drew ?_ | refine blk_alloc ?_ _)); refine blk_put (cs := #[.int .i64 a0_0, .int .i64 a0_1, .string a0_2, .slice none 0 0]) ?_ 3 _ rfl; (with_reducible repeat (first | refine blk_drewN ?_ _ | refine blk_drew ?_ | refine blk_alloc ?_ _)); refine blk_put (cs := #[.int .i64 a0_0, .int .i64 a0_1, .string x135002_1, .slice none 0 0]) ?_ 2 _ rfl; (with_reducible repeat (first | refine blk_drewN ?_ _ | refine blk_drew ?_ | refine blk_alloc ?_ _)); refine blk_put (cs := #[.int .i64 a0_0, .int .i64 x135001_1, .string x135002_1, .slice none 0 0]) ?_ 1 _ rfl; (with_reducible repeat (first | refine blk_drewN ?_ _ | refine blk_drew ?_ | refine blk_alloc ?_ _)); refine blk_put (cs := #[.int .i64 x135000_1, .int .i64 x135001_1, .string x135002_1, .slice none 0 0]) ?_ 0 _ rfl; (with_reducible repeat (first | refine blk_drewN ?_ _ | refine blk_drew ?_ | refine blk_alloc ?_ _)); exact BK134.out) Try.underlying24 rfl (by kernel_rfl)) rfl ?_
          exact ⟨_, by first | rfl | (simp [errW_none, errW_some] <;> rfl) | (simp [*, errW_none, errW_some] <;> rfl), by (with_reducible repeat (first | apply Kd.R_alloc | apply Kd.R_drewN | apply Kd.R_drew)); exact Kd.R_mono (Kd.R_far (p := ⟨gb134, 3, none⟩) (Kd.R_far (p := ⟨gb134, 2, none⟩) (Kd.R_far (p := ⟨gb134, 1, none⟩) (Kd.R_far (p := ⟨gb134, 0, none⟩) (Kd.R_mono HO_136003.out (fun k_ hk => (⟨hk, hk.1⟩ : _ ∧ k_ ≠ gb134))) (fun _ hk => hk.2) (.int .i64 a0_0)) (fun _ hk => hk.2) (.int .i64 a0_1)) (fun _ hk => hk.2) (.string a0_2)) (fun _ hk => hk.2) (.slice Ao65 x136003_1.length co65)) (fun _ hk => trivial), by repeat (first | (with_reducible first | exact HB.out | apply below_alloc | apply pw_below_drewN | apply below_drew1 | refine below_set ?_ GE133.out | refine below_set ?_ GE134.out | refine below_set ?_ GE135.out) | exact HB.out)⟩

/-! ### codec_reader_take: function 38, by hand -/
/-- The reader's state: the block g holds a slice of what lay there ahead of the call. -/
def RdS (w0 w : World) (g : Nat) (l : List Int) : Prop := ∃ A c, w.heap[g]? = some (.cells #[.slice A l.length c] 64 (0, 0)) ∧ (Kd.int .u8).C w0 A l.length l ∧ l.length ≤ c
/-- take: what is taken, whether there was enough, what is left. -/
def takeS (n : Int) (l : List Int) : List Int × Bool × List Int := if n > (l.length : Int) then ([], false, l) else (l.take n.toNat, true, l.drop n.toNat)
theorem wuE (n : Int) : IntKind.u64.wrap n = n % 18446744073709551616 := by simp [IntKind.wrap, IntKind.bits, IntKind.signed]
theorem RdS.len {w0 w : World} {g : Nat} {l : List Int} (h : RdS w0 w g l) : l.length ≤ 9223372036854775807 := by
  obtain ⟨A, c, _, h, _⟩ := h
  have := h.2.1
  omega
theorem RdS.kept {w0 w w' : World} {g : Nat} {l : List Int} (h : RdS w0 w g l) {S : Nat → Prop} (hk : Kept w w' S) (hg : ¬ S g) : RdS w0 w' g l := by
  obtain ⟨A, c, h1, h2⟩ := h
  exact ⟨A, c, blk_kept h1 hk hg, h2⟩
theorem Kept.transE {w w' w'' : World} {S : Nat → Prop} (h : Kept w w' S) (k : Kept w' w'' S) : Kept w w'' S := h.then_ k (fun _ hk => .inl hk)
set_option maxHeartbeats 1600000 in
set_option maxRecDepth 100000 in
theorem reader_take.calls (w0 w : World) (g : Nat) (l : List Int) (n : Int) (hn : 0 ≤ n) (hg : w0.heap.size ≤ g) (hB : Below w0.heap.size w0 w) (hs : RdS w0 w g l) :
    Calls Try.prog 38 #[.pointer (some ⟨g, 0, none⟩), .int .u64 n] w fun e w' => ∃ A c, e = .returned (.tuple #[.slice A (takeS n l).1.length c, .bool (takeS n l).2.1]) ∧ (Kd.int .u8).C w0 A (takeS n l).1.length (takeS n l).1 ∧ (takeS n l).1.length ≤ c ∧ RdS w0 w' g (takeS n l).2.2 ∧ Below w0.heap.size w0 w' ∧ Kept w w' (fun k => k = g) := by
  have hlen := hs.len
  have hs' := Aside0.mk hs
  obtain ⟨A, c, hblk, hC, hc⟩ := hs
  have hcell : w.cell? ⟨g, 0, none⟩ = some (.slice A l.length c) := (blk_cell hblk 0).trans rfl
  have hfz := blk_frozen hblk 0
  have hw : IntKind.u64.wrap (l.length : Int) = (l.length : Int) := by rw [wuE]; omega
  have HBK := Aside0.mk hblk
  have HC := Aside0.mk hC
  have HB := Aside0.mk hB
  have HG := Aside0.mk hg
  have HL := Aside0.mk hlen
  have HCC := Aside0.mk hc
  clear hblk hC hB hg hlen hc
  by_cases h : n > (l.length : Int)
  · rw [show takeS n l = ([], false, l) from if_pos h]
    have b0 : decide (n > (l.length : Int)) = true := decide_eq_true h
    have b1 : decide ((l.length : Int) < n) = true := decide_eq_true h
    clear h
    go_enter Try.func38, Try.ntmps38
    go_wp2
    go_ret2
    exact ⟨none, 0, rfl, Kd.C_nil _ _, Nat.le_refl _, hs'.out, HB.out, Kept.refl _ _⟩
  · rw [show takeS n l = (l.take n.toNat, true, l.drop n.toNat) from if_neg h]
    obtain ⟨m, rfl⟩ : ∃ m : Nat, n = m := ⟨n.toNat, by omega⟩
    have hm : m ≤ l.length := by omega
    have b0 : decide ((m : Int) > (l.length : Int)) = false := decide_eq_false h
    have b1 : decide ((l.length : Int) < (m : Int)) = false := decide_eq_false h
    have b2 : decide (l.length < m) = false := decide_eq_false (by omega)
    have b3 : (l.length < m) = False := eq_false (by omega)
    have hto := cut_to (P := Try.prog) 31 5 .u64 (i := (Try.prog.info? 5).getD default) Try.underlying31 (by kernel_rfl) A l.length c m hn (by omega) HCC.out
    have hfrom := cut_from (P := Try.prog) 31 5 .u64 (i := (Try.prog.info? 5).getD default) Try.underlying31 (by kernel_rfl) 1 (by kernel_rfl) A l.length c m hn (by omega)
    have hC1 := Kd.C_take HC.out hm
    have hC2 := Kd.C_drop HC.out hm HCC.out
    simp only [Int.toNat_natCast] at hto hfrom ⊢
    rw [show m * (Kd.int .u8).sz = m * 1 from rfl] at hC2
    obtain ⟨A2, hA2⟩ : ∃ A2, (if c = m then A else A.map (·.add (m * 1))) = A2 := ⟨_, rfl⟩
    simp only [hA2] at hfrom
    rw [hA2] at hC2
    clear hA2
    obtain ⟨o, ho⟩ : ∃ o, l.take m = o := ⟨_, rfl⟩
    obtain ⟨r, hr⟩ : ∃ r, l.drop m = r := ⟨_, rfl⟩
    have hol : o.length = m := by rw [← ho, List.length_take]; omega
    have hrl : r.length = l.length - m := by rw [← hr, List.length_drop]
    rw [ho] at hC1
    rw [hr] at hC2
    simp only [ho, hr]
    clear ho hr h hn
    have HO := Aside0.mk hol
    have HR := Aside0.mk hrl
    have HC1 := Aside0.mk hC1
    have HC2 := Aside0.mk hC2
    have HM := Aside0.mk hm
    clear hol hrl hC1 hC2 hm
    go_enter Try.func38, Try.ntmps38
    go_wp2
    go_ret2
    refine ⟨A, c, by rw [HO.out]; rfl, HC1.out, by have := HO.out; have := HM.out; have := HCC.out; omega, ⟨A2, c - m, ?_, HC2.out, by have := HR.out; have := HCC.out; have := HM.out; omega⟩, HB.out.setCell (p := ⟨g, 0, none⟩) HG.out _, (Kept.refl w (fun k => k = g)).setCell (p := ⟨g, 0, none⟩) (.inl rfl) _⟩
    rw [HR.out]
    exact blk_set HBK.out 0 _

/-! ### codec_reader_head: function 36, by hand -/
/-- The number that more bytes tell. -/
def foldB (l : List Int) : Int := l.foldl (fun n x => n * 256 + x) 0
/-- head: the kind, the number, whether there was one, what is left. -/
def rheadS : List Int → Int × Int × Bool × List Int
  | [] => (0, 0, false, [])
  | x :: r => if x % 64 < 56 then (x / 64, x % 64, true, r) else
      if x % 64 - 55 > (r.length : Int) then (0, 0, false, r) else
        if rd r 0 = 0 ∨ (x % 64 - 55 = 1 ∧ rd r 0 < 56) then (0, 0, false, r.drop (x % 64 - 55).toNat) else (x / 64, foldB (r.take (x % 64 - 55).toNat), true, r.drop (x % 64 - 55).toNat)
def Bytes (l : List Int) : Prop := ∀ x ∈ l, 0 ≤ x ∧ x < 256
theorem and63 (x : Int) (h : 0 ≤ x ∧ x < 256) : IntKind.u64.wrap (Go.bits .and .u8 x 63) = x % 64 := by rw [u8_and63 x h.1 h.2, wuE]; omega
theorem foldB_range : ∀ (l : List Int), Bytes l → ∀ a : Int, 0 ≤ a → 0 ≤ l.foldl (fun n x => n * 256 + x) a
  | [], _, a, h => h
  | x :: r, hb, a, h => by
    have h1 := hb x List.mem_cons_self
    exact foldB_range r (fun y hy => hb y (List.mem_cons_of_mem _ hy)) (a * 256 + x) (by omega)
theorem foldB_bound : ∀ (l : List Int), Bytes l → ∀ a b : Int, 0 ≤ a → a < b → l.foldl (fun n x => n * 256 + x) a < b * 256 ^ l.length
  | [], _, a, b, _, h => by simpa using h
  | x :: r, hb, a, b, h0, h => by
    have h1 := hb x List.mem_cons_self
    have := foldB_bound r (fun y hy => hb y (List.mem_cons_of_mem _ hy)) (a * 256 + x) (b * 256) (by omega) (by omega)
    rw [List.foldl_cons, List.length_cons, Int.pow_succ]
    rw [show b * (256 ^ r.length * 256) = b * 256 * 256 ^ r.length by rw [Int.mul_comm (256 ^ r.length) 256, Int.mul_assoc]]
    exact this
theorem foldB_small (l : List Int) (hb : Bytes l) (h : l.length ≤ 7) : 0 ≤ foldB l ∧ foldB l < 72057594037927936 := by
  refine ⟨foldB_range l hb 0 (Int.le_refl _), ?_⟩
  have h1 := foldB_bound l hb 0 1 (Int.le_refl _) (by omega)
  rw [Int.one_mul] at h1
  have h2 : (256 : Int) ^ l.length ≤ 72057594037927936 := by
    have : l.length = 0 ∨ l.length = 1 ∨ l.length = 2 ∨ l.length = 3 ∨ l.length = 4 ∨ l.length = 5 ∨ l.length = 6 ∨ l.length = 7 := by omega
    rcases this with e | e | e | e | e | e | e | e <;> rw [e] <;> decide
  exact Int.lt_of_lt_of_le h1 h2
theorem foldB_succ (o : List Int) (j : Nat) (h : j < o.length) : foldB (o.take (j + 1)) = foldB (o.take j) * 256 + rd o (j : Int) := by
  unfold foldB
  rw [List.take_succ_eq_append_getElem h, List.foldl_append]
  simp [rd, h]
theorem or_byte (a z : Int) (h0 : 0 ≤ a) (h1 : a < 72057594037927936) (z0 : 0 ≤ z ∧ z < 256) : Go.bits .or .u64 (IntKind.u64.wrap (a * 256)) (IntKind.u64.wrap z) = a * 256 + z := by
  obtain ⟨p, rfl⟩ : ∃ p : Nat, a = p := ⟨a.toNat, by omega⟩
  obtain ⟨q, rfl⟩ : ∃ q : Nat, z = q := ⟨z.toNat, by omega⟩
  have e1 : IntKind.u64.wrap ((p : Int) * 256) = ((p * 256 : Nat) : Int) := by rw [wuE]; omega
  have e2 : IntKind.u64.wrap (q : Int) = ((q : Nat) : Int) := by rw [wuE]; omega
  have hk : ∀ n : Int, 0 ≤ n → n < 2 ^ 64 → IntKind.u64.wrap n = n := fun n h h' => by
    have e : (2 : Int) ^ 64 = 18446744073709551616 := by decide
    rw [e] at h'
    rw [wuE]
    omega
  rw [e1, e2, (bits_nat .u64 64 (by decide) hk (p * 256) q (by omega) (by omega)).2]
  have h3 := Nat.two_pow_add_eq_or_of_lt (i := 8) (b := q) (by omega) p
  rw [show p * 256 = 2 ^ 8 * p by omega, ← h3]
  omega
set_option maxHeartbeats 3200000 in
set_option maxRecDepth 100000 in
theorem reader_head.calls (w0 w : World) (g : Nat) (l : List Int) (hb : Bytes l) (hg : w0.heap.size ≤ g) (hB : Below w0.heap.size w0 w) (hs : RdS w0 w g l) :
    Calls Try.prog 36 #[.pointer (some ⟨g, 0, none⟩)] w fun e w' => e = .returned (.tuple #[.int .i64 (rheadS l).1, .int .u64 (rheadS l).2.1, .bool (rheadS l).2.2.1]) ∧ RdS w0 w' g (rheadS l).2.2.2 ∧ Below w0.heap.size w0 w' ∧ Kept w w' (fun k => k = g) := by
  have HS := Aside0.mk hs
  have HB := Aside0.mk hB
  clear hs hB
  cases l with
  | nil =>
    have HT : Aside0 (takeS 1 [] = ([], false, [])) := ⟨by rw [takeS, if_pos (by simp)]⟩
    go_enter Try.func36, Try.ntmps36
    go_wp2_with (first | (go_at_call 38; (refine (reader_take.calls w0 _ g [] 1 (by omega) hg HB.out HS.out).mono ?_); rintro e w1 ⟨A1, c1, rfl, p1, p2, p3, p4, p5⟩; rw [HT.out] at p1 p2 p3 ⊢; dsimp only at p1 p2 p3 ⊢; (have P3 := Aside0.mk p3); (have P4 := Aside0.mk p4); (have P5 := Aside0.mk p5); clear p1 p2 p3 p4 p5))
    go_ret3
    exact ⟨rfl, P3.out, P4.out, P5.out⟩
  | cons x r =>
    have hx0 := hb x List.mem_cons_self
    have HT : Aside0 (takeS 1 (x :: r) = ([x], true, r)) := ⟨by rw [takeS, if_neg (by simp only [List.length_cons]; omega)]; simp⟩
    have e1 : wrap64 (x / 64) = x / 64 := by unfold wrap64; omega
    have e1' : IntKind.i64.wrap (x / 64) = x / 64 := by rw [IntKind.wrap_i64]; omega
    have e2 := and63 x hx0
    have hr : Bytes r := fun y hy => hb y (List.mem_cons_of_mem _ hy)
    simp only [rheadS]
    obtain ⟨kd, hkd⟩ : ∃ kd, x / 64 = kd := ⟨_, rfl⟩
    obtain ⟨n, hn⟩ : ∃ n, x % 64 = n := ⟨_, rfl⟩
    rw [hn] at e2 ⊢
    rw [hkd] at e1 e1' ⊢
    have E1 := Aside0.mk e1
    have hn0 : 0 ≤ n ∧ n < 64 := by omega
    have HX := Aside0.mk hx0
    have HRB := Aside0.mk hr
    clear hn hx0 hr hb
    by_cases c1 : n < 56
    · rw [if_pos c1]
      have b1 : decide (n < 56) = true := decide_eq_true c1
      clear c1
      go_enter Try.func36, Try.ntmps36
      go_wp2_with (first | (go_at_call 38; (refine (reader_take.calls w0 _ g (x :: r) 1 (by omega) hg HB.out HS.out).mono ?_); rintro e w1 ⟨A1, c1, rfl, p1, p2, p3, p4, p5⟩; rw [HT.out] at p1 p2 p3 ⊢; dsimp only at p1 p2 p3 ⊢; obtain ⟨ad, rfl, hx⟩ := Kd.at_int p1 0 (by omega) (by simp); replace hx := (p4.cell (World.block_lt_of_cell? w0 _ hx)).trans hx; rw [show rd [x] 0 = x from rfl, show Int.toNat 0 = 0 from rfl, Addr.add_zero'] at hx; (have P3 := Aside0.mk p3); (have P4 := Aside0.mk p4); (have P5 := Aside0.mk p5); clear p1 p2 p3 p4 p5))
      go_quiet (fail)
      go_wp2
      go_ret3
      exact ⟨by first | rfl | (rw [E1.out]; rfl) | (simp only [E1.out]; rfl), P3.out, pw_below_drewN P4.out _, P5.out⟩
    · rw [if_neg c1]
      have b1 : decide (n < 56) = false := decide_eq_false c1
      have e3 : IntKind.u64.wrap (IntKind.u64.wrap (n - 56) + 1) = n - 55 := by rw [wuE, wuE]; omega
      have e4 : IntKind.u64.wrap (n - 56) = n - 56 := by rw [wuE]; omega
      have e5 : IntKind.u64.wrap (n - 56 + 1) = n - 55 := by rw [wuE]; omega
      have hm0 : 1 ≤ n - 55 ∧ n - 55 ≤ 8 := by omega
      obtain ⟨m, hm⟩ : ∃ m, n - 55 = m := ⟨_, rfl⟩
      rw [hm] at e3 e5 hm0 ⊢
      have HM0 := Aside0.mk hm0
      clear c1 hm hn0 hm0
      by_cases c2 : m > (r.length : Int)
      · rw [if_pos c2]
        have HT2 : Aside0 (takeS m r = ([], false, r)) := ⟨if_pos c2⟩
        clear c2
        go_enter Try.func36, Try.ntmps36
        go_wp2_with (first | (go_at_call 38; (refine (reader_take.calls w0 _ g (x :: r) 1 (by omega) hg HB.out HS.out).mono ?_); rintro e w1 ⟨A1, c1, rfl, p1, p2, p3, p4, p5⟩; rw [HT.out] at p1 p2 p3 ⊢; dsimp only at p1 p2 p3 ⊢; obtain ⟨ad, rfl, hx⟩ := Kd.at_int p1 0 (by omega) (by simp); replace hx := (p4.cell (World.block_lt_of_cell? w0 _ hx)).trans hx; rw [show rd [x] 0 = x from rfl, show Int.toNat 0 = 0 from rfl, Addr.add_zero'] at hx; (have P3 := Aside0.mk p3); (have P4 := Aside0.mk p4); (have P5 := Aside0.mk p5); clear p1 p2 p3 p4 p5))
        go_quiet (fail)
        go_wp2_with (first | (go_at_call 38; (refine (reader_take.calls w0 _ g r m (by have := HM0.out; omega) hg (pw_below_drewN P4.out _) (show RdS w0 (w1.drewN _) g r from P3.out)).mono ?_); rintro e w2 ⟨A2, c2, rfl, q1, q2, q3, q4, q5⟩; rw [HT2.out] at q1 q2 q3 ⊢; dsimp only at q1 q2 q3 ⊢; (have Q3 := Aside0.mk q3); (have Q4 := Aside0.mk q4); (have Q5 := Aside0.mk (Kept.transE P5.out q5)); clear q1 q2 q3 q4 q5))
        go_ret3
        exact ⟨rfl, Q3.out, Q4.out, Q5.out⟩
      · rw [if_neg c2]
        obtain ⟨mm, rfl⟩ : ∃ mm : Nat, m = mm := ⟨m.toNat, by have := HM0.out; omega⟩
        rw [Int.toNat_natCast]
        have HT2 : Aside0 (takeS (mm : Int) r = (r.take mm, true, r.drop mm)) := ⟨by rw [takeS, if_neg c2, Int.toNat_natCast]⟩
        have hol : (r.take mm).length = mm := by rw [List.length_take]; omega
        have hy0 : rd (r.take mm) 0 = rd r 0 := by
          have h1 := HM0.out
          cases r with
          | nil => simp at c2; omega
          | cons y r' =>
            cases mm with
            | zero => omega
            | succ q => rfl
        have hob : Bytes (r.take mm) := fun y hy => HRB.out y (List.mem_of_mem_take hy)
        obtain ⟨o, ho⟩ : ∃ o, r.take mm = o := ⟨_, rfl⟩
        obtain ⟨rest, hrest⟩ : ∃ rest, r.drop mm = rest := ⟨_, rfl⟩
        obtain ⟨y, hy⟩ : ∃ y, rd r 0 = y := ⟨_, rfl⟩
        rw [ho] at HT2 hol hy0 hob
        rw [hrest] at HT2
        rw [hy] at hy0
        simp only [ho, hrest, hy]
        have HOL := Aside0.mk hol
        have HY := Aside0.mk hy0
        have HOB := Aside0.mk hob
        have f0 : (0 < o.length) = True := eq_true (by have := HM0.out; omega)
        have f0' : ((0 : Int) < (o.length : Int)) = True := eq_true (by have := HM0.out; omega)
        clear c2 ho hrest hy hol hy0 hob
        by_cases d1 : y = 0
        · rw [if_pos (.inl d1)]
          have f1 : (y == 0) = true := beq_iff_eq.2 d1
          clear d1
          go_enter Try.func36, Try.ntmps36
          go_wp2_with (first | (go_at_call 38; (refine (reader_take.calls w0 _ g (x :: r) 1 (by omega) hg HB.out HS.out).mono ?_); rintro e w1 ⟨A1, c1, rfl, p1, p2, p3, p4, p5⟩; rw [HT.out] at p1 p2 p3 ⊢; dsimp only at p1 p2 p3 ⊢; obtain ⟨ad, rfl, hx⟩ := Kd.at_int p1 0 (by omega) (by simp); replace hx := (p4.cell (World.block_lt_of_cell? w0 _ hx)).trans hx; rw [show rd [x] 0 = x from rfl, show Int.toNat 0 = 0 from rfl, Addr.add_zero'] at hx; (have P3 := Aside0.mk p3); (have P4 := Aside0.mk p4); (have P5 := Aside0.mk p5); clear p1 p2 p3 p4 p5))
          go_quiet (fail)
          go_wp2_with (first | (go_at_call 38; (refine (reader_take.calls w0 _ g r mm (by omega) hg (pw_below_drewN P4.out _) (show RdS w0 (w1.drewN _) g r from P3.out)).mono ?_); rintro e w2 ⟨A2, c2, rfl, q1, q2, q3, q4, q5⟩; rw [HT2.out] at q1 q2 q3 ⊢; dsimp only at q1 q2 q3 ⊢; obtain ⟨ad2, rfl, hy2⟩ := Kd.at_int q1 0 (by omega) (by have := HOL.out; have := HM0.out; omega); replace hy2 := (q4.cell (World.block_lt_of_cell? w0 _ hy2)).trans hy2; rw [HY.out, show Int.toNat 0 = 0 from rfl, Addr.add_zero'] at hy2; (have Q1 := Aside0.mk q1); (have Q3 := Aside0.mk q3); (have Q4 := Aside0.mk q4); (have Q5 := Aside0.mk (Kept.transE P5.out q5)); clear q1 q2 q3 q4 q5))
          go_ret3
          exact ⟨rfl, Q3.out, Q4.out, Q5.out⟩
        have f1 : (y == 0) = false := beq_eq_false_iff_ne.2 d1
        by_cases d2 : mm = 1
        · have f2 : ((o.length : Int) == 1) = true := beq_iff_eq.2 (by have := HOL.out; omega)
          have f2' : (o.length == 1) = true := beq_iff_eq.2 (by have := HOL.out; omega)
          have f2'' : o.length = 1 := by have := HOL.out; omega
          by_cases d3 : y < 56
          · rw [if_pos (.inr ⟨by omega, d3⟩)]
            have f3 : decide (y < 56) = true := decide_eq_true d3
            clear d1 d2 d3
            go_enter Try.func36, Try.ntmps36
            go_wp2_with (first | (go_at_call 38; (refine (reader_take.calls w0 _ g (x :: r) 1 (by omega) hg HB.out HS.out).mono ?_); rintro e w1 ⟨A1, c1, rfl, p1, p2, p3, p4, p5⟩; rw [HT.out] at p1 p2 p3 ⊢; dsimp only at p1 p2 p3 ⊢; obtain ⟨ad, rfl, hx⟩ := Kd.at_int p1 0 (by omega) (by simp); replace hx := (p4.cell (World.block_lt_of_cell? w0 _ hx)).trans hx; rw [show rd [x] 0 = x from rfl, show Int.toNat 0 = 0 from rfl, Addr.add_zero'] at hx; (have P3 := Aside0.mk p3); (have P4 := Aside0.mk p4); (have P5 := Aside0.mk p5); clear p1 p2 p3 p4 p5))
            go_quiet (fail)
            go_wp2_with (first | (go_at_call 38; (refine (reader_take.calls w0 _ g r mm (by omega) hg (pw_below_drewN P4.out _) (show RdS w0 (w1.drewN _) g r from P3.out)).mono ?_); rintro e w2 ⟨A2, c2, rfl, q1, q2, q3, q4, q5⟩; rw [HT2.out] at q1 q2 q3 ⊢; dsimp only at q1 q2 q3 ⊢; obtain ⟨ad2, rfl, hy2⟩ := Kd.at_int q1 0 (by omega) (by have := HOL.out; have := HM0.out; omega); replace hy2 := (q4.cell (World.block_lt_of_cell? w0 _ hy2)).trans hy2; rw [HY.out, show Int.toNat 0 = 0 from rfl, Addr.add_zero'] at hy2; (have Q1 := Aside0.mk q1); (have Q3 := Aside0.mk q3); (have Q4 := Aside0.mk q4); (have Q5 := Aside0.mk (Kept.transE P5.out q5)); clear q1 q2 q3 q4 q5))
            go_ret3
            exact ⟨rfl, Q3.out, Q4.out, Q5.out⟩
          · rw [if_neg (by rintro (h | ⟨_, h⟩); exact d1 h; exact d3 h)]
            have f3 : decide (y < 56) = false := decide_eq_false d3
            clear d1 d2 d3
            go_enter Try.func36, Try.ntmps36
            go_wp2_with (first | (go_at_call 38; (refine (reader_take.calls w0 _ g (x :: r) 1 (by omega) hg HB.out HS.out).mono ?_); rintro e w1 ⟨A1, c1, rfl, p1, p2, p3, p4, p5⟩; rw [HT.out] at p1 p2 p3 ⊢; dsimp only at p1 p2 p3 ⊢; obtain ⟨ad, rfl, hx⟩ := Kd.at_int p1 0 (by omega) (by simp); replace hx := (p4.cell (World.block_lt_of_cell? w0 _ hx)).trans hx; rw [show rd [x] 0 = x from rfl, show Int.toNat 0 = 0 from rfl, Addr.add_zero'] at hx; (have P3 := Aside0.mk p3); (have P4 := Aside0.mk p4); (have P5 := Aside0.mk p5); clear p1 p2 p3 p4 p5))
            go_quiet (fail)
            go_wp2_with (first | (go_at_call 38; (refine (reader_take.calls w0 _ g r mm (by omega) hg (pw_below_drewN P4.out _) (show RdS w0 (w1.drewN _) g r from P3.out)).mono ?_); rintro e w2 ⟨A2, c2, rfl, q1, q2, q3, q4, q5⟩; rw [HT2.out] at q1 q2 q3 ⊢; dsimp only at q1 q2 q3 ⊢; obtain ⟨ad2, rfl, hy2⟩ := Kd.at_int q1 0 (by omega) (by have := HOL.out; have := HM0.out; omega); replace hy2 := (q4.cell (World.block_lt_of_cell? w0 _ hy2)).trans hy2; rw [HY.out, show Int.toNat 0 = 0 from rfl, Addr.add_zero'] at hy2; (have Q1 := Aside0.mk q1); (have Q3 := Aside0.mk q3); (have Q4 := Aside0.mk q4); (have Q5 := Aside0.mk (Kept.transE P5.out q5)); clear q1 q2 q3 q4 q5))
            go_loopw [8, 62] (fun v i wr => ∃ j : Nat, j ≤ o.length ∧ i = .int .i64 j ∧ v = .int .u64 (foldB (o.take j)) ∧ wr = w2) (fun _ i _ => o.length - (intOf i).toNat)
            case atStart => exact ⟨0, Nat.zero_le _, rfl, by rw [List.take_zero]; rfl, rfl⟩
            case round =>
              obtain ⟨j, hj, rfl, rfl, rfl⟩ := hrel
              by_cases hlt : j < o.length
              · obtain ⟨ad3, e3_, hz⟩ := Kd.at_int Q1.out (j : Int) (by omega) (by omega)
                injection e3_ with e3_
                subst e3_
                replace hz := (Q4.out.cell (World.block_lt_of_cell? w0 _ hz)).trans hz
                rw [Int.toNat_natCast] at hz
                have hsucc := foldB_succ o j hlt
                have hzr : 0 ≤ rd o (j : Int) ∧ rd o (j : Int) < 256 := by
                  have := HOB.out o[j] (List.getElem_mem hlt)
                  simpa [rd, hlt] using this
                have har := foldB_small (o.take j) (fun y hy => HOB.out y (List.mem_of_mem_take hy)) (by rw [List.length_take]; have := HOL.out; have := HM0.out; omega)
                obtain ⟨z, hz2⟩ : ∃ z, rd o (j : Int) = z := ⟨_, rfl⟩
                obtain ⟨a, ha⟩ : ∃ a, foldB (o.take j) = a := ⟨_, rfl⟩
                rw [hz2] at hz hsucc hzr
                rw [ha] at hsucc har
                simp only [ha]
                have hor := or_byte a z har.1 har.2 hzr
                have HSU := Aside0.mk hsucc
                have HOR := Aside0.mk hor
                have hj8 : j < 9223372036854775807 := by have := HOL.out; have := HM0.out; omega
                clear hz2 ha hsucc hzr har hor
                go_wp2
                all_goals first
                  | (go_roundw
                     case rel => exact ⟨j + 1, hlt, by go_num, by rw [HOR.out, HSU.out], rfl⟩
                     case measure => simp [intOf]; omega)
                  | exact ⟨⟨j + 1, hlt, by go_num, by rw [HOR.out, HSU.out], trivial⟩, by simp [intOf]; omega⟩
              · obtain rfl : j = o.length := by omega
                simp only [List.take_length]
                go_wp2
                go_ret3
                exact ⟨by first | rfl | (rw [E1.out]; rfl) | (simp only [E1.out]; rfl), Q3.out, Q4.out, Q5.out⟩
        · rw [if_neg (by rintro (h | ⟨h, _⟩); exact d1 h; exact d2 (by omega))]
          have f2 : ((o.length : Int) == 1) = false := beq_eq_false_iff_ne.2 (by have := HOL.out; omega)
          have f2' : (o.length == 1) = false := beq_eq_false_iff_ne.2 (by have := HOL.out; omega)
          have f2'' : (o.length = 1) = False := eq_false (by have := HOL.out; omega)
          clear d1 d2
          go_enter Try.func36, Try.ntmps36
          go_wp2_with (first | (go_at_call 38; (refine (reader_take.calls w0 _ g (x :: r) 1 (by omega) hg HB.out HS.out).mono ?_); rintro e w1 ⟨A1, c1, rfl, p1, p2, p3, p4, p5⟩; rw [HT.out] at p1 p2 p3 ⊢; dsimp only at p1 p2 p3 ⊢; obtain ⟨ad, rfl, hx⟩ := Kd.at_int p1 0 (by omega) (by simp); replace hx := (p4.cell (World.block_lt_of_cell? w0 _ hx)).trans hx; rw [show rd [x] 0 = x from rfl, show Int.toNat 0 = 0 from rfl, Addr.add_zero'] at hx; (have P3 := Aside0.mk p3); (have P4 := Aside0.mk p4); (have P5 := Aside0.mk p5); clear p1 p2 p3 p4 p5))
          go_quiet (fail)
          go_wp2_with (first | (go_at_call 38; (refine (reader_take.calls w0 _ g r mm (by omega) hg (pw_below_drewN P4.out _) (show RdS w0 (w1.drewN _) g r from P3.out)).mono ?_); rintro e w2 ⟨A2, c2, rfl, q1, q2, q3, q4, q5⟩; rw [HT2.out] at q1 q2 q3 ⊢; dsimp only at q1 q2 q3 ⊢; obtain ⟨ad2, rfl, hy2⟩ := Kd.at_int q1 0 (by omega) (by have := HOL.out; have := HM0.out; omega); replace hy2 := (q4.cell (World.block_lt_of_cell? w0 _ hy2)).trans hy2; rw [HY.out, show Int.toNat 0 = 0 from rfl, Addr.add_zero'] at hy2; (have Q1 := Aside0.mk q1); (have Q3 := Aside0.mk q3); (have Q4 := Aside0.mk q4); (have Q5 := Aside0.mk (Kept.transE P5.out q5)); clear q1 q2 q3 q4 q5))
          go_loopw [8, 62] (fun v i wr => ∃ j : Nat, j ≤ o.length ∧ i = .int .i64 j ∧ v = .int .u64 (foldB (o.take j)) ∧ wr = w2) (fun _ i _ => o.length - (intOf i).toNat)
          case atStart => exact ⟨0, Nat.zero_le _, rfl, by rw [List.take_zero]; rfl, rfl⟩
          case round =>
            obtain ⟨j, hj, rfl, rfl, rfl⟩ := hrel
            by_cases hlt : j < o.length
            · obtain ⟨ad3, e3_, hz⟩ := Kd.at_int Q1.out (j : Int) (by omega) (by omega)
              injection e3_ with e3_
              subst e3_
              replace hz := (Q4.out.cell (World.block_lt_of_cell? w0 _ hz)).trans hz
              rw [Int.toNat_natCast] at hz
              have hsucc := foldB_succ o j hlt
              have hzr : 0 ≤ rd o (j : Int) ∧ rd o (j : Int) < 256 := by
                have := HOB.out o[j] (List.getElem_mem hlt)
                simpa [rd, hlt] using this
              have har := foldB_small (o.take j) (fun y hy => HOB.out y (List.mem_of_mem_take hy)) (by rw [List.length_take]; have := HOL.out; have := HM0.out; omega)
              obtain ⟨z, hz2⟩ : ∃ z, rd o (j : Int) = z := ⟨_, rfl⟩
              obtain ⟨a, ha⟩ : ∃ a, foldB (o.take j) = a := ⟨_, rfl⟩
              rw [hz2] at hz hsucc hzr
              rw [ha] at hsucc har
              simp only [ha]
              have hor := or_byte a z har.1 har.2 hzr
              have HSU := Aside0.mk hsucc
              have HOR := Aside0.mk hor
              have hj8 : j < 9223372036854775807 := by have := HOL.out; have := HM0.out; omega
              clear hz2 ha hsucc hzr har hor
              go_wp2
              all_goals first
                | (go_roundw
                   case rel => exact ⟨j + 1, hlt, by go_num, by rw [HOR.out, HSU.out], rfl⟩
                   case measure => simp [intOf]; omega)
                | exact ⟨⟨j + 1, hlt, by go_num, by rw [HOR.out, HSU.out], trivial⟩, by simp [intOf]; omega⟩
            · obtain rfl : j = o.length := by omega
              simp only [List.take_length]
              go_wp2
              go_ret3
              exact ⟨by first | rfl | (rw [E1.out]; rfl) | (simp only [E1.out]; rfl), Q3.out, Q4.out, Q5.out⟩

/-! ### codec_integer: function 37 -/
def codec_integer.f (a0 : Int) : Option (Int) := if (Go.bits .and .u64 a0 1) = 1 then (some (wrap64 (Go.bits .xor .u64 18446744073709551615 (a0 / 2)))) else (some (wrap64 (a0 / 2)))
set_option maxHeartbeats 8000000 in
set_option maxRecDepth 100000 in
theorem codec_integer.calls (a0 : Int) (r : Int) (w : World) (h : codec_integer.f a0 = some r) :
    Calls Try.prog 37 #[.int .u64 a0] w fun e w' => e = .returned (.int .i64 r) ∧ Drawn0 w w' := by
  have H : (if (Go.bits .and .u64 a0 1) = 1 then (some (wrap64 (Go.bits .xor .u64 18446744073709551615 (a0 / 2)))) else (some (wrap64 (a0 / 2)))) = some r := h
  clear h
  by_cases c2 : (Go.bits .and .u64 a0 1) = 1
  · rw [if_pos c2] at H
    have c2b0 : ((Go.bits .and .u64 a0 1) == 1) = true := beq_iff_eq.mpr c2
    have c2b1 : ((Go.bits .and .u64 a0 1) != 1) = false := bne_eq_false_iff_eq.mpr c2
    clear c2
    obtain rfl := Option.some.inj H
    go_enter Try.func37, Try.ntmps37
    go_wp2
    go_ret
    exact ⟨by first | rfl | (simp; done) | (simp [*]; done), by repeat (first | exact Drawn0.refl _ | apply Drawn0.step)⟩
  · rw [if_neg c2] at H
    have c2b0 : ((Go.bits .and .u64 a0 1) == 1) = false := beq_eq_false_iff_ne.mpr c2
    have c2b1 : ((Go.bits .and .u64 a0 1) != 1) = true := bne_iff_ne.mpr c2
    obtain rfl := Option.some.inj H
    go_enter Try.func37, Try.ntmps37
    go_wp2
    go_ret
    exact ⟨by first | rfl | (simp; done) | (simp [*]; done), by repeat (first | exact Drawn0.refl _ | apply Drawn0.step)⟩

end Go.Proofs.Ytploigkfnkgjiaa.PN
