-- Written by a program of this place (wip/gen.py) with the kit's print; not trusted: Lean checks it.
import Derived.Test.YtgickognjlapmaaPQx0
import Derived.Test.YtgickognjlapmaaPQx2
import Derived.Test.YtgickognjlapmaaPQx3
import Derived.Test.YtgickognjlapmaaPQx4
import Derived.Test.YtgickognjlapmaaPQx5
namespace Go.Proofs.Ytgickognjlapmaa.PQ
open Go.RowKit Go.Proofs.YtgickognjlapmaaW.PrintWords Go.Proofs.YtgickognjlapmaaW.PrintLast Go.Proofs.YtgickognjlapmaaW.PrintMore
attribute [local go_sem] max2_int min2_int max_two min_two max_three min_three max_four min_four   -- for this text's walks alone
set_option linter.unusedVariables false
set_option linter.unusedSimpArgs false

/-! ### breaker_Fewest: function 17, by hand -/
/-! ### Fewest -/
def breaker_Fewest.l (rows : Nat → List EndV) : Nat → Nat → Int
  | 0, _ => 0
  | m + 1, c => if (re (rows c) 0).2.2 = true then (c : Int) else breaker_Fewest.l rows m (c + 1)
def breaker_Fewest.f (k : Nat) (l0 : List S34) (a1 a2 : Int) : Option (Int × Int) :=
  (breaker_problem_valid.f k l0 a1 a2).bind fun v => if v = true then (if l0.length ≤ 1000 then (breaker_table.row k l0 a1 a2 l0.length).bind fun _ => some (breaker_Fewest.l (fun c => (breaker_table.row k l0 a1 a2 c).getD []) (l0.length + 1) 0, 0) else none) else some (0, 1)
set_option maxRecDepth 100000 in
set_option maxHeartbeats 4000000 in
theorem breaker_Fewest.calls (k : Nat) (A0 : Option Addr) (c0 : Nat) (l0 : List S34) (a1 a2 : Int) (r1 r2 : Int) (w : World) (hr0 : Kd.C k34 w A0 l0.length l0) (hc0 : l0.length ≤ c0) (h : breaker_Fewest.f k l0 a1 a2 = some (r1, r2)) :
    Calls Try.prog 17 #[.slice A0 l0.length c0, .int .i64 a1, .int .i64 a2] w fun e w' => e = .returned (.tuple #[.int .i64 r1, .int .i64 r2]) ∧ Below w.heap.size w w' := by
  have HR := Aside0.mk hr0
  have HC := Aside0.mk hc0
  clear hr0 hc0
  unfold breaker_Fewest.f at h
  obtain ⟨v, hv, h⟩ := Option.bind_eq_some_iff.1 h
  have HV := Aside0.mk hv
  clear hv
  have hu_ := Try.underlying46
  go_enter Try.func17, Try.ntmps17
  have HB1 := Aside0.mk ((Below.refl w.heap.size w).alloc (Nat.le_refl _) (.cells #[.slice A0 l0.length c0, .int .i64 a1, .int .i64 a2] 46))
  have HI8 := Aside0.mk (blk_new w (.cells #[.slice A0 l0.length c0, .int .i64 a1, .int .i64 a2] 46))
  cases v with
  | false =>
    rw [if_neg (by decide)] at h
    simp only [Option.some.injEq, Prod.mk.injEq] at h
    obtain ⟨rfl, rfl⟩ := h
    go_wp2_with (go_at_fn 24)
    refine (breaker_problem_valid.calls k _ _ l0 a1 a2 false _ ?s1 ?s2 HV.out).mono ?_
    case s1 => exact Kd.C_below HR.out HB1.out
    case s2 => exact HC.out
    rintro e w5 ⟨rfl, hb⟩
    have HB2 := Aside0.mk (HB1.out.trans (hb.mono HB1.out.size))
    clear hb
    go_wp2
    go_ret2
    exact ⟨rfl, HB2.out⟩
  | true =>
    rw [if_pos rfl] at h
    by_cases hlen : l0.length ≤ 1000
    case neg => rw [if_neg hlen] at h; cases h
    rw [if_pos hlen] at h
    obtain ⟨r, hr, h2⟩ := Option.bind_eq_some_iff.1 h
    clear h
    simp only [Option.some.injEq, Prod.mk.injEq] at h2
    obtain ⟨h3, rfl⟩ := h2
    have HROW := Aside0.mk (table_row_getD k l0 a1 a2 l0.length r hr)
    have HH := Aside0.mk h3
    clear h3 hr
    go_wp2_with (go_at_fn 24)
    refine (breaker_problem_valid.calls k _ _ l0 a1 a2 true _ ?s1 ?s2 HV.out).mono ?_
    case s1 => exact Kd.C_below HR.out HB1.out
    case s2 => exact HC.out
    rintro e w5 ⟨rfl, hb⟩
    have HB2 := Aside0.mk (HB1.out.trans (hb.mono HB1.out.size))
    have hj8 := blk_below HI8.out hb
    have q0 : w5.cell? ⟨w.heap.size, 0, none⟩ = some (.slice A0 l0.length c0) := (blk_cell hj8 0).trans rfl
    have q1 : w5.cell? ⟨w.heap.size, 1, none⟩ = some (.int .i64 a1) := (blk_cell hj8 1).trans rfl
    have q2 : w5.cell? ⟨w.heap.size, 2, none⟩ = some (.int .i64 a2) := (blk_cell hj8 2).trans rfl
    clear hb HI8 hj8
    go_wp2_with (go_at_fn 32)
    refine (table_calls k A0 c0 l0 a1 a2 l0.length (fun c => (breaker_table.row k l0 a1 a2 c).getD []) _ ?s1 ?s2 hlen (Nat.le_refl _) ?s3).mono ?_
    case s1 => exact Kd.C_below HR.out HB2.out
    case s2 => exact HC.out
    case s3 => exact HROW.out
    rintro e w6 ⟨gr, cs, gs, rfl, hgr, hcs, hgs, hb⟩
    have HB3 := Aside0.mk (HB2.out.trans (hb.mono HB2.out.size))
    have HGR := Aside0.mk hgr
    have HCS := Aside0.mk hcs
    have HGS := Aside0.mk hgs
    clear hb hgr hcs hgs q0 q1 q2
    go_wp2
    go_loopg [23] (l0.length + 1) (fun kq v23 w' => ∃ (c : Nat), v23 = .int .i64 (c : Int) ∧ Aside0 (c + kq = l0.length + 1) ∧ Aside0 (breaker_Fewest.l (fun c => (breaker_table.row k l0 a1 a2 c).getD []) kq c = r1) ∧ w' = w6)
    case atStart => exact ⟨0, rfl, ⟨by omega⟩, HH, rfl⟩
    case round =>
      clear HH
      obtain ⟨c, rfl, HC2, HQ, rfl⟩ := hrel
      cases gk with
      | zero =>
        have e1 : decide ((c : Int) < (l0.length : Int) + 1) = false := decide_eq_false (by have := HC2.out; omega)
        go_wp2
        go_ret2
        have := HQ.out
        simp only [breaker_Fewest.l] at this
        subst this
        exact ⟨rfl, HB3.out⟩
      | succ m =>
        have e1 : decide ((c : Int) < (l0.length : Int) + 1) = true := decide_eq_true (by have := HC2.out; omega)
        have ec : (c : Int) < (l0.length : Int) + 1 := by have := HC2.out; omega
        have el : (0 : Int) < (l0.length : Int) + 1 := by omega
        have hc := HROW.out c (by omega)
        have m0 := mkEnds_get ((breaker_table.row k l0 a1 a2 c).getD []) 0 (by have := table_row_len k l0 a1 a2 c _ hc; omega)
        have qr : wr.cell? ⟨gr, c, none⟩ = some (.slice (some ⟨gs c, 0, none⟩) (l0.length + 1) (l0.length + 1)) := (blk_cell HGR.out c).trans (HCS.out c (by omega))
        have qf : wr.cell? ⟨gs c, 2, none⟩ = some (.bool (re ((breaker_table.row k l0 a1 a2 c).getD []) 0).2.2) := (blk_cell (HGS.out c (by omega)) 2).trans m0.2.2
        have hq := HQ.out
        simp only [breaker_Fewest.l] at hq
        obtain ⟨fd, hfd⟩ : ∃ fd, (re ((breaker_table.row k l0 a1 a2 c).getD []) 0).2.2 = fd := ⟨_, rfl⟩
        rw [hfd] at qf hq
        clear hc m0 hfd HQ
        cases fd with
        | true =>
          rw [if_pos rfl] at hq
          subst hq
          go_wp2
          go_ret2
          exact ⟨rfl, HB3.out⟩
        | false =>
          rw [if_neg (by decide)] at hq
          have HQ := Aside0.mk hq
          have nwc : wrap64 ((c : Int) + 1) = (c : Int) + 1 := by unfold wrap64; omega
          clear hq
          go_wp2
          go_roundg m
          case measure => omega
          case rel => exact ⟨c + 1, rfl, ⟨by have := HC2.out; omega⟩, HQ, rfl⟩
theorem Fewest_l_congr {r r' : Nat → List EndV} : ∀ m c, (∀ j, j < c + m → r j = r' j) → breaker_Fewest.l r m c = breaker_Fewest.l r' m c
  | 0, _, _ => rfl
  | m + 1, c, h => by
    simp only [breaker_Fewest.l]
    rw [h c (by omega), Fewest_l_congr m (c + 1) (fun j hj => h j (by omega))]
theorem breaker_Fewest.mono : ∀ a0 a1 a2 k, LeO (breaker_Fewest.f k a0 a1 a2) (breaker_Fewest.f (k + 1) a0 a1 a2) := by
  intro a0 a1 a2 k
  unfold breaker_Fewest.f
  refine LeO.bind (breaker_problem_valid.mono _ _ _ _) (fun _ => ?_)
  refine LeO.ite ?_ (LeO.refl _)
  refine LeO.ite ?_ (LeO.refl _)
  intro r hr
  obtain ⟨q, hq, h⟩ := Option.bind_eq_some_iff.1 hr
  rw [table_row_mono _ _ _ _ _ q hq, Option.bind_some, Fewest_l_congr (r' := fun c => (breaker_table.row k a0 a1 a2 c).getD []) _ _ (fun j hj => table_getD_mono k a0 a1 a2 _ q hq j (by omega))]
  exact h

/-! ### vinculumlaw45_BreakerNumbers: function 9 -/
mutual
def vinculumlaw45_BreakerNumbers.j0 : Nat → List (S34) → Bool → Int → Int → Int → Option (Bool)
  | 0, _, _, _, _, _ => none
  | k + 1, x0, x24, x142000, x142001, x142002 => if x24 = true then (some true) else ((breaker_Best.f k x0 x142000 x142001).bind fun bt144 => ((breaker_Fewest.f k x0 x142000 x142001).bind fun bt149 => (if bt144.2.2 = 0 then (if bt149.2 = 0 then (vinculumlaw45_BreakerNumbers.j1 k x0 bt144.1 bt144.2.1 bt149.1 (decide ((bt144.1.length : Int) < bt149.1)) x142000 x142001 x142002) else (vinculumlaw45_BreakerNumbers.j1 k x0 bt144.1 bt144.2.1 bt149.1 true x142000 x142001 x142002)) else (vinculumlaw45_BreakerNumbers.j1 k x0 bt144.1 bt144.2.1 bt149.1 true x142000 x142001 x142002))))
def vinculumlaw45_BreakerNumbers.j1 : Nat → List (S34) → List Int → Int → Int → Bool → Int → Int → Int → Option (Bool)
  | 0, _, _, _, _, _, _, _, _ => none
  | k + 1, x0, x5, x6, x8, x55, x142000, x142001, x142002 => if x55 = true then (none) else (vinculumlaw45_BreakerNumbers.l0 k x0 x5 x6 x8 0 x142000 x142001 x142002)
def vinculumlaw45_BreakerNumbers.l0 : Nat → List (S34) → List Int → Int → Int → Int → Int → Int → Int → Option (Bool)
  | 0, _, _, _, _, _, _, _, _ => none
  | k + 1, x0, x5, x6, x8, x10, x142000, x142001, x142002 => if x10 ≤ (wrap64 ((x0.length : Int) + 1)) then ((breaker_Lines.f k x0 x142000 x142001 x10).bind fun bt151 => (if x10 < x8 then (vinculumlaw45_BreakerNumbers.j3 k x0 x5 x6 x8 x10 bt151.1 bt151.2.1 bt151.2.2 true x142000 x142001 x142002) else (vinculumlaw45_BreakerNumbers.j3 k x0 x5 x6 x8 x10 bt151.1 bt151.2.1 bt151.2.2 (decide (x10 > (x0.length : Int))) x142000 x142001 x142002))) else (some true)
def vinculumlaw45_BreakerNumbers.j3 : Nat → List (S34) → List Int → Int → Int → Int → List Int → Int → Int → Bool → Int → Int → Int → Option (Bool)
  | 0, _, _, _, _, _, _, _, _, _, _, _, _ => none
  | k + 1, x0, x5, x6, x8, x10, x11, x12, x13, x74, x142000, x142001, x142002 => if x74 = true then (if x13 = 8 then (vinculumlaw45_BreakerNumbers.l0 k x0 x5 x6 x8 (wrap64 (x10 + 1)) x142000 x142001 x142002) else (none)) else (if x13 = 0 then (if x12 < x6 then (none) else (if (x11.length : Int) = x10 then (if x10 = (x5.length : Int) then (if x12 = x6 then ((vinculumlaw45_same.f k x11 x5).bind fun t156 => (if t156 = true then (vinculumlaw45_BreakerNumbers.l0 k x0 x5 x6 x8 (wrap64 (x10 + 1)) x142000 x142001 x142002) else (none))) else (none)) else (vinculumlaw45_BreakerNumbers.l0 k x0 x5 x6 x8 (wrap64 (x10 + 1)) x142000 x142001 x142002)) else (none))) else (if x13 = 8 then (if x10 = x8 then (none) else (if x10 = (x0.length : Int) then (none) else (vinculumlaw45_BreakerNumbers.l0 k x0 x5 x6 x8 (wrap64 (x10 + 1)) x142000 x142001 x142002))) else (none)))
end
def vinculumlaw45_BreakerNumbers.f (k : Nat) (l0 : List (S34)) (a1_0 : Int) (a1_1 : Int) (a1_2 : Int) : Option (Bool) := (vinculumlaw45_awake.f k).bind fun t142 => (if t142 = true then ((vinculumlaw45_fits.f k l0 a1_0 a1_1 a1_2).bind fun t143 => (if t143 = true then (vinculumlaw45_BreakerNumbers.j0 k l0 (decide ((l0.length : Int) > 20)) a1_0 a1_1 a1_2) else (vinculumlaw45_BreakerNumbers.j0 k l0 true a1_0 a1_1 a1_2))) else (none))
theorem vinculumlaw45_BreakerNumbers.mono_l : ∀ k, (∀ y0 y1 y2 y3 y4, LeO (vinculumlaw45_BreakerNumbers.j0 k y0 y1 y2 y3 y4) (vinculumlaw45_BreakerNumbers.j0 (k + 1) y0 y1 y2 y3 y4)) ∧ (∀ y0 y1 y2 y3 y4 y5 y6 y7, LeO (vinculumlaw45_BreakerNumbers.j1 k y0 y1 y2 y3 y4 y5 y6 y7) (vinculumlaw45_BreakerNumbers.j1 (k + 1) y0 y1 y2 y3 y4 y5 y6 y7)) ∧ (∀ y0 y1 y2 y3 y4 y5 y6 y7, LeO (vinculumlaw45_BreakerNumbers.l0 k y0 y1 y2 y3 y4 y5 y6 y7) (vinculumlaw45_BreakerNumbers.l0 (k + 1) y0 y1 y2 y3 y4 y5 y6 y7)) ∧ (∀ y0 y1 y2 y3 y4 y5 y6 y7 y8 y9 y10 y11, LeO (vinculumlaw45_BreakerNumbers.j3 k y0 y1 y2 y3 y4 y5 y6 y7 y8 y9 y10 y11) (vinculumlaw45_BreakerNumbers.j3 (k + 1) y0 y1 y2 y3 y4 y5 y6 y7 y8 y9 y10 y11))
  | 0 => ⟨fun _ _ _ _ _ r h => by simp [vinculumlaw45_BreakerNumbers.j0] at h, fun _ _ _ _ _ _ _ _ r h => by simp [vinculumlaw45_BreakerNumbers.j1] at h, fun _ _ _ _ _ _ _ _ r h => by simp [vinculumlaw45_BreakerNumbers.l0] at h, fun _ _ _ _ _ _ _ _ _ _ _ _ r h => by simp [vinculumlaw45_BreakerNumbers.j3] at h⟩
  | k + 1 => by
    obtain ⟨ih0, ih1, ih2, ih3⟩ := vinculumlaw45_BreakerNumbers.mono_l k
    refine ⟨?_, ?_, ?_, ?_⟩
    · intro y0 y1 y2 y3 y4
      unfold vinculumlaw45_BreakerNumbers.j0
      repeat' first
      | (with_reducible exact ih0 _ _ _ _ _)
      | (with_reducible exact ih1 _ _ _ _ _ _ _ _)
      | (with_reducible exact ih2 _ _ _ _ _ _ _ _)
      | (with_reducible exact ih3 _ _ _ _ _ _ _ _ _ _ _ _)
      | (with_reducible exact breaker_Best.mono _ _ _ _)
      | (with_reducible exact breaker_Fewest.mono _ _ _ _)
      | (with_reducible exact breaker_Lines.mono _ _ _ _ _)
      | (with_reducible exact vinculumlaw45_awake.mono _)
      | (with_reducible exact vinculumlaw45_fits.mono _ _ _ _ _)
      | (with_reducible exact vinculumlaw45_same.mono _ _ _)
      | (with_reducible exact LeO.refl _)
      | (with_reducible exact LeO.none _)
      | (with_reducible refine LeO.ite ?_ ?_)
      | (with_reducible refine LeO.bind ?_ (fun _ => ?_))
      | exact ih0 _ _ _ _ _
      | exact ih1 _ _ _ _ _ _ _ _
      | exact ih2 _ _ _ _ _ _ _ _
      | exact ih3 _ _ _ _ _ _ _ _ _ _ _ _
      | exact breaker_Best.mono _ _ _ _
      | exact breaker_Fewest.mono _ _ _ _
      | exact breaker_Lines.mono _ _ _ _ _
      | exact vinculumlaw45_awake.mono _
      | exact vinculumlaw45_fits.mono _ _ _ _ _
      | exact vinculumlaw45_same.mono _ _ _
      | exact LeO.none _
      | refine LeO.ite ?_ ?_
      | refine LeO.bind ?_ (fun _ => ?_)
    · intro y0 y1 y2 y3 y4 y5 y6 y7
      unfold vinculumlaw45_BreakerNumbers.j1
      repeat' first
      | (with_reducible exact ih0 _ _ _ _ _)
      | (with_reducible exact ih1 _ _ _ _ _ _ _ _)
      | (with_reducible exact ih2 _ _ _ _ _ _ _ _)
      | (with_reducible exact ih3 _ _ _ _ _ _ _ _ _ _ _ _)
      | (with_reducible exact breaker_Best.mono _ _ _ _)
      | (with_reducible exact breaker_Fewest.mono _ _ _ _)
      | (with_reducible exact breaker_Lines.mono _ _ _ _ _)
      | (with_reducible exact vinculumlaw45_awake.mono _)
      | (with_reducible exact vinculumlaw45_fits.mono _ _ _ _ _)
      | (with_reducible exact vinculumlaw45_same.mono _ _ _)
      | (with_reducible exact LeO.refl _)
      | (with_reducible exact LeO.none _)
      | (with_reducible refine LeO.ite ?_ ?_)
      | (with_reducible refine LeO.bind ?_ (fun _ => ?_))
      | exact ih0 _ _ _ _ _
      | exact ih1 _ _ _ _ _ _ _ _
      | exact ih2 _ _ _ _ _ _ _ _
      | exact ih3 _ _ _ _ _ _ _ _ _ _ _ _
      | exact breaker_Best.mono _ _ _ _
      | exact breaker_Fewest.mono _ _ _ _
      | exact breaker_Lines.mono _ _ _ _ _
      | exact vinculumlaw45_awake.mono _
      | exact vinculumlaw45_fits.mono _ _ _ _ _
      | exact vinculumlaw45_same.mono _ _ _
      | exact LeO.none _
      | refine LeO.ite ?_ ?_
      | refine LeO.bind ?_ (fun _ => ?_)
    · intro y0 y1 y2 y3 y4 y5 y6 y7
      unfold vinculumlaw45_BreakerNumbers.l0
      repeat' first
      | (with_reducible exact ih0 _ _ _ _ _)
      | (with_reducible exact ih1 _ _ _ _ _ _ _ _)
      | (with_reducible exact ih2 _ _ _ _ _ _ _ _)
      | (with_reducible exact ih3 _ _ _ _ _ _ _ _ _ _ _ _)
      | (with_reducible exact breaker_Best.mono _ _ _ _)
      | (with_reducible exact breaker_Fewest.mono _ _ _ _)
      | (with_reducible exact breaker_Lines.mono _ _ _ _ _)
      | (with_reducible exact vinculumlaw45_awake.mono _)
      | (with_reducible exact vinculumlaw45_fits.mono _ _ _ _ _)
      | (with_reducible exact vinculumlaw45_same.mono _ _ _)
      | (with_reducible exact LeO.refl _)
      | (with_reducible exact LeO.none _)
      | (with_reducible refine LeO.ite ?_ ?_)
      | (with_reducible refine LeO.bind ?_ (fun _ => ?_))
      | exact ih0 _ _ _ _ _
      | exact ih1 _ _ _ _ _ _ _ _
      | exact ih2 _ _ _ _ _ _ _ _
      | exact ih3 _ _ _ _ _ _ _ _ _ _ _ _
      | exact breaker_Best.mono _ _ _ _
      | exact breaker_Fewest.mono _ _ _ _
      | exact breaker_Lines.mono _ _ _ _ _
      | exact vinculumlaw45_awake.mono _
      | exact vinculumlaw45_fits.mono _ _ _ _ _
      | exact vinculumlaw45_same.mono _ _ _
      | exact LeO.none _
      | refine LeO.ite ?_ ?_
      | refine LeO.bind ?_ (fun _ => ?_)
    · intro y0 y1 y2 y3 y4 y5 y6 y7 y8 y9 y10 y11
      unfold vinculumlaw45_BreakerNumbers.j3
      repeat' first
      | (with_reducible exact ih0 _ _ _ _ _)
      | (with_reducible exact ih1 _ _ _ _ _ _ _ _)
      | (with_reducible exact ih2 _ _ _ _ _ _ _ _)
      | (with_reducible exact ih3 _ _ _ _ _ _ _ _ _ _ _ _)
      | (with_reducible exact breaker_Best.mono _ _ _ _)
      | (with_reducible exact breaker_Fewest.mono _ _ _ _)
      | (with_reducible exact breaker_Lines.mono _ _ _ _ _)
      | (with_reducible exact vinculumlaw45_awake.mono _)
      | (with_reducible exact vinculumlaw45_fits.mono _ _ _ _ _)
      | (with_reducible exact vinculumlaw45_same.mono _ _ _)
      | (with_reducible exact LeO.refl _)
      | (with_reducible exact LeO.none _)
      | (with_reducible refine LeO.ite ?_ ?_)
      | (with_reducible refine LeO.bind ?_ (fun _ => ?_))
      | exact ih0 _ _ _ _ _
      | exact ih1 _ _ _ _ _ _ _ _
      | exact ih2 _ _ _ _ _ _ _ _
      | exact ih3 _ _ _ _ _ _ _ _ _ _ _ _
      | exact breaker_Best.mono _ _ _ _
      | exact breaker_Fewest.mono _ _ _ _
      | exact breaker_Lines.mono _ _ _ _ _
      | exact vinculumlaw45_awake.mono _
      | exact vinculumlaw45_fits.mono _ _ _ _ _
      | exact vinculumlaw45_same.mono _ _ _
      | exact LeO.none _
      | refine LeO.ite ?_ ?_
      | refine LeO.bind ?_ (fun _ => ?_)
theorem vinculumlaw45_BreakerNumbers.mono : ∀ a0 a1 a2 a3 k, LeO (vinculumlaw45_BreakerNumbers.f k a0 a1 a2 a3) (vinculumlaw45_BreakerNumbers.f (k + 1) a0 a1 a2 a3) := by
  intro a0 a1 a2 a3 k
  obtain ⟨ih0, ih1, ih2, ih3⟩ := vinculumlaw45_BreakerNumbers.mono_l k
  unfold vinculumlaw45_BreakerNumbers.f
  repeat' first
      | (with_reducible exact ih0 _ _ _ _ _)
      | (with_reducible exact ih1 _ _ _ _ _ _ _ _)
      | (with_reducible exact ih2 _ _ _ _ _ _ _ _)
      | (with_reducible exact ih3 _ _ _ _ _ _ _ _ _ _ _ _)
      | (with_reducible exact breaker_Best.mono _ _ _ _)
      | (with_reducible exact breaker_Fewest.mono _ _ _ _)
      | (with_reducible exact breaker_Lines.mono _ _ _ _ _)
      | (with_reducible exact vinculumlaw45_awake.mono _)
      | (with_reducible exact vinculumlaw45_fits.mono _ _ _ _ _)
      | (with_reducible exact vinculumlaw45_same.mono _ _ _)
      | (with_reducible exact LeO.refl _)
      | (with_reducible exact LeO.none _)
      | (with_reducible refine LeO.ite ?_ ?_)
      | (with_reducible refine LeO.bind ?_ (fun _ => ?_))
      | exact ih0 _ _ _ _ _
      | exact ih1 _ _ _ _ _ _ _ _
      | exact ih2 _ _ _ _ _ _ _ _
      | exact ih3 _ _ _ _ _ _ _ _ _ _ _ _
      | exact breaker_Best.mono _ _ _ _
      | exact breaker_Fewest.mono _ _ _ _
      | exact breaker_Lines.mono _ _ _ _ _
      | exact vinculumlaw45_awake.mono _
      | exact vinculumlaw45_fits.mono _ _ _ _ _
      | exact vinculumlaw45_same.mono _ _ _
      | exact LeO.none _
      | refine LeO.ite ?_ ?_
      | refine LeO.bind ?_ (fun _ => ?_)
set_option maxHeartbeats 8000000 in
set_option maxRecDepth 100000 in
theorem vinculumlaw45_BreakerNumbers.calls (k : Nat) (A0 : Option Addr) (c0 : Nat) (l0 : List (S34)) (a1_0 : Int) (a1_1 : Int) (a1_2 : Int) (r : Bool) (w : World) (hr0 : Kd.C k34 w A0 l0.length l0) (hc0 : l0.length ≤ c0) (h : vinculumlaw45_BreakerNumbers.f k l0 a1_0 a1_1 a1_2 = some r) :
    Calls Try.prog 9 #[.slice A0 l0.length c0, .agg #[.int .i64 a1_0, .int .i64 a1_1, .int .i64 a1_2]] w fun e w' => e = .returned (.bool r) ∧ Below w.heap.size w w' := by
  have hu24 := Try.underlying24
  have HR0 := Aside0.mk hr0
  have HC0 := Aside0.mk hc0
  clear hr0 hc0
  have HB := Aside0.mk (Below.refl w.heap.size w)
  have H : ((vinculumlaw45_awake.f k).bind fun t142 => (if t142 = true then ((vinculumlaw45_fits.f k l0 a1_0 a1_1 a1_2).bind fun t143 => (if t143 = true then (vinculumlaw45_BreakerNumbers.j0 k l0 (decide ((l0.length : Int) > 20)) a1_0 a1_1 a1_2) else (vinculumlaw45_BreakerNumbers.j0 k l0 true a1_0 a1_1 a1_2))) else (none))) = some r := h
  clear h
  replace H := Option.bind_eq_some_iff.mp H
  obtain ⟨t142, A30, H⟩ := H
  replace H : (if t142 = true then ((vinculumlaw45_fits.f k l0 a1_0 a1_1 a1_2).bind fun t143 => (if t143 = true then (vinculumlaw45_BreakerNumbers.j0 k l0 (decide ((l0.length : Int) > 20)) a1_0 a1_1 a1_2) else (vinculumlaw45_BreakerNumbers.j0 k l0 true a1_0 a1_1 a1_2))) else (none)) = some r := H
  have A3 := Aside0.mk A30
  clear A30
  by_cases c4 : t142 = true
  · subst c4
    have H1 : ((vinculumlaw45_fits.f k l0 a1_0 a1_1 a1_2).bind fun t143 => (if t143 = true then (vinculumlaw45_BreakerNumbers.j0 k l0 (decide ((l0.length : Int) > 20)) a1_0 a1_1 a1_2) else (vinculumlaw45_BreakerNumbers.j0 k l0 true a1_0 a1_1 a1_2))) = some r := by rw [if_pos rfl] at H; exact H
    clear H
    have H := H1
    clear H1
    have HC5 := Aside0.mk H
    clear H
    go_enter Try.func9, Try.ntmps9
    go_upto_region 3 with (first | ((with_reducible refine gate_dst (N := 3) rfl ?_); (try (refine gate_guard (by rfl) ?_; dsimp only)); refine box_event ?hg (N := 3) ?hd (cs := #[.int .i64 a1_0, .int .i64 a1_1, .int .i64 a1_2]) (t := 24) ?hr ?_; (case hd => rfl); (case hg => rfl); (case hr => first | (go_simp; done) | (go_simp; rfl)); intro gb141 hg w6 hbox hb; have n0_ := Aside0.mk (below_step (by repeat (first | (with_reducible first | exact HB.out | apply below_alloc | apply pw_below_drewN | apply below_drew1) | exact HB.out)) hb); have n1_ := Aside0.mk (hbox); have n2_ := Aside0.mk ((by rw [hg]; exact (below_size (by repeat (first | (with_reducible first | exact HB.out | apply below_alloc | apply pw_below_drewN | apply below_drew1) | exact HB.out))) : w.heap.size ≤ gb141)); have n3_ := Aside0.mk ((by rw [hg]; exact (below_size (by repeat (first | (with_reducible first | exact HB.out | apply below_alloc | apply pw_below_drewN | apply below_drew1) | exact HB.out))) : w.heap.size ≤ gb141)); clear HB; have HB := n0_; have BK141 := n1_; have GW141 := n2_; have GE141 := n3_; clear n0_ n1_ n2_ n3_; clear hb hbox hg) | ((with_reducible refine gate_callee (f := 10) rfl ?_); refine goesL_ (some 14) rfl rfl Try.func10 (by kernel_rfl) rfl #[] rfl (by (try simp only [List.map_toArray, List.map_cons, List.map_nil]); first | done | rfl | (simp only [List.length_drop, List.length_take]; rfl)) ?_; (with_reducible refine (vinculumlaw45_awake.calls k  true _ A3.out).mono ?_); rintro e w7 ⟨rfl, hb⟩; refine ⟨_, rfl, ?_⟩; have n0_ := Aside0.mk (blk_below (g := gb141) (o := .cells #[.int .i64 a1_0, .int .i64 a1_1, .int .i64 a1_2] 24 (0, 0)) (by (with_reducible repeat (first | refine blk_drewN ?_ _ | refine blk_drew ?_ | refine blk_alloc ?_ _)); exact BK141.out) hb); have n1_ := Aside0.mk (below_step (by repeat (first | (with_reducible first | exact HB.out | apply below_alloc | apply pw_below_drewN | apply below_drew1 | refine below_set ?_ GE141.out) | exact HB.out)) hb); clear BK141; clear HB; have BK141 := n0_; have HB := n1_; clear n0_ n1_; (try clear hb); (try clear hb2); (try clear hk); (try clear hi)))
    (try simp only [Act.put, List.setIfInBounds_toArray, List.set_cons_zero, List.set_cons_succ])
    go_cut [24] (fun v24 wc => ∃ (kq : Nat) (x24_4 : Bool), v24 = .bool x24_4 ∧ Aside0 (vinculumlaw45_BreakerNumbers.j0 kq l0 x24_4 a1_0 a1_1 a1_2 = some r) ∧ Aside0 (kq ≤ k) ∧ Aside0 (wc.heap[gb141]? = some (.cells #[.int .i64 a1_0, .int .i64 a1_1, .int .i64 a1_2] 24 (0, 0))) ∧ Aside0 (Below w.heap.size w wc))
    case first =>
      have H := HC5.out
      clear HC5
      replace H := Option.bind_eq_some_iff.mp H
      obtain ⟨t143, A80, H⟩ := H
      replace H : (if t143 = true then (vinculumlaw45_BreakerNumbers.j0 k l0 (decide ((l0.length : Int) > 20)) a1_0 a1_1 a1_2) else (vinculumlaw45_BreakerNumbers.j0 k l0 true a1_0 a1_1 a1_2)) = some r := H
      have A8 := Aside0.mk A80
      clear A80
      by_cases c9 : t143 = true
      · subst c9
        have H1 : (vinculumlaw45_BreakerNumbers.j0 k l0 (decide ((l0.length : Int) > 20)) a1_0 a1_1 a1_2) = some r := by rw [if_pos rfl] at H; exact H
        clear H
        have H := H1
        clear H1
        have H' := Aside0.mk H
        clear H
        have hcz10_0 : w7.cell? ⟨gb141, 0, none⟩ = some (.int .i64 a1_0) := (blk_cell BK141.out 0).trans rfl
        have hcz10_1 : w7.cell? ⟨gb141, 1, none⟩ = some (.int .i64 a1_1) := (blk_cell BK141.out 1).trans rfl
        have hcz10_2 : w7.cell? ⟨gb141, 2, none⟩ = some (.int .i64 a1_2) := (blk_cell BK141.out 2).trans rfl
        have hfz10_0 := blk_frozen BK141.out 0
        have hfz10_1 := blk_frozen BK141.out 1
        have hfz10_2 := blk_frozen BK141.out 2
        go_wp2_with (first | ((with_reducible refine gate_callee (f := 11) rfl ?_); refine goesL_ (some 18) rfl rfl Try.func11 (by kernel_rfl) rfl #[.slice A0 l0.length c0, .agg #[.int .i64 a1_0, .int .i64 a1_1, .int .i64 a1_2]] rfl (by (try simp only [List.map_toArray, List.map_cons, List.map_nil]); first | done | rfl | (simp only [List.length_drop, List.length_take]; rfl)) ?_; (with_reducible refine (vinculumlaw45_fits.calls k _ _ l0 a1_0 a1_1 a1_2 true _ ?side1 ?side2 A8.out).mono ?_); (case side1 => repeat (first | exact (Kd.C_below HR0.out HB.out) | (with_reducible refine Kd.C_alloc ?_ _) | (with_reducible refine Kd.C_drewN ?_ _) | (with_reducible refine Kd.C_drew ?_))); (case side2 => exact HC0.out); rintro e w11 ⟨rfl, hb⟩; refine ⟨_, rfl, ?_⟩; have n0_ := Aside0.mk (blk_below (g := gb141) (o := .cells #[.int .i64 a1_0, .int .i64 a1_1, .int .i64 a1_2] 24 (0, 0)) (by (with_reducible repeat (first | refine blk_drewN ?_ _ | refine blk_drew ?_ | refine blk_alloc ?_ _)); exact BK141.out) hb); have n1_ := Aside0.mk (below_step (by repeat (first | (with_reducible first | exact HB.out | apply below_alloc | apply pw_below_drewN | apply below_drew1 | refine below_set ?_ GE141.out) | exact HB.out)) hb); clear BK141; clear HB; have BK141 := n0_; have HB := n1_; clear n0_ n1_; (try clear hb); (try clear hb2); (try clear hk); (try clear hi)))
        go_meet
        case rel => exact ⟨_, (decide ((l0.length : Int) > 20)), (by first | rfl | (simp; done) | (simp [*]; done) | (simp [ne_nil_bool]; done)), H', ⟨by first | omega | exact Nat.le_refl _⟩, ⟨by (with_reducible repeat (first | refine blk_drewN ?_ _ | refine blk_drew ?_ | refine blk_alloc ?_ _)); exact BK141.out⟩, ⟨by repeat (first | (with_reducible first | exact HB.out | apply below_alloc | apply pw_below_drewN | apply below_drew1 | refine below_set ?_ GE141.out) | exact HB.out)⟩⟩
      · replace c9 := Bool.eq_false_iff.mpr c9
        subst c9
        have H1 : (vinculumlaw45_BreakerNumbers.j0 k l0 true a1_0 a1_1 a1_2) = some r := by rw [if_neg (show ¬ (false = true) by decide)] at H; exact H
        clear H
        have H := H1
        clear H1
        have H' := Aside0.mk H
        clear H
        have hcz12_0 : w7.cell? ⟨gb141, 0, none⟩ = some (.int .i64 a1_0) := (blk_cell BK141.out 0).trans rfl
        have hcz12_1 : w7.cell? ⟨gb141, 1, none⟩ = some (.int .i64 a1_1) := (blk_cell BK141.out 1).trans rfl
        have hcz12_2 : w7.cell? ⟨gb141, 2, none⟩ = some (.int .i64 a1_2) := (blk_cell BK141.out 2).trans rfl
        have hfz12_0 := blk_frozen BK141.out 0
        have hfz12_1 := blk_frozen BK141.out 1
        have hfz12_2 := blk_frozen BK141.out 2
        go_wp2_with (first | ((with_reducible refine gate_callee (f := 11) rfl ?_); refine goesL_ (some 18) rfl rfl Try.func11 (by kernel_rfl) rfl #[.slice A0 l0.length c0, .agg #[.int .i64 a1_0, .int .i64 a1_1, .int .i64 a1_2]] rfl (by (try simp only [List.map_toArray, List.map_cons, List.map_nil]); first | done | rfl | (simp only [List.length_drop, List.length_take]; rfl)) ?_; (with_reducible refine (vinculumlaw45_fits.calls k _ _ l0 a1_0 a1_1 a1_2 false _ ?side1 ?side2 A8.out).mono ?_); (case side1 => repeat (first | exact (Kd.C_below HR0.out HB.out) | (with_reducible refine Kd.C_alloc ?_ _) | (with_reducible refine Kd.C_drewN ?_ _) | (with_reducible refine Kd.C_drew ?_))); (case side2 => exact HC0.out); rintro e w13 ⟨rfl, hb⟩; refine ⟨_, rfl, ?_⟩; have n0_ := Aside0.mk (blk_below (g := gb141) (o := .cells #[.int .i64 a1_0, .int .i64 a1_1, .int .i64 a1_2] 24 (0, 0)) (by (with_reducible repeat (first | refine blk_drewN ?_ _ | refine blk_drew ?_ | refine blk_alloc ?_ _)); exact BK141.out) hb); have n1_ := Aside0.mk (below_step (by repeat (first | (with_reducible first | exact HB.out | apply below_alloc | apply pw_below_drewN | apply below_drew1 | refine below_set ?_ GE141.out) | exact HB.out)) hb); clear BK141; clear HB; have BK141 := n0_; have HB := n1_; clear n0_ n1_; (try clear hb); (try clear hb2); (try clear hk); (try clear hi)))
        go_meet
        case rel => exact ⟨_, (true), (by first | rfl | (simp; done) | (simp [*]; done) | (simp [ne_nil_bool]; done)), H', ⟨by first | omega | exact Nat.le_refl _⟩, ⟨by (with_reducible repeat (first | refine blk_drewN ?_ _ | refine blk_drew ?_ | refine blk_alloc ?_ _)); exact BK141.out⟩, ⟨by repeat (first | (with_reducible first | exact HB.out | apply below_alloc | apply pw_below_drewN | apply below_drew1 | refine below_set ?_ GE141.out) | exact HB.out)⟩⟩
    case rest =>
      clear HC5
      try clear c1
      try clear p2
      try clear c4
      try clear c9
      try clear c10
      try clear c11
      try clear hcz10_0
      try clear hcz10_1
      try clear hcz10_2
      try clear hcz12_0
      try clear hcz12_1
      try clear hcz12_2
      try clear hfz10_0
      try clear hfz10_1
      try clear hfz10_2
      try clear hfz12_0
      try clear hfz12_1
      try clear hfz12_2
      obtain ⟨kq, x24_4, rfl, HA, HJ4, BK141, HB⟩ := hcut
      cases kq with
      | zero => exact absurd HA.out (by simp [vinculumlaw45_BreakerNumbers.j0])
      | succ kj4 =>
        have H := HA.out
        clear HA
        simp only [vinculumlaw45_BreakerNumbers.j0] at H
        by_cases c14 : x24_4 = true
        · subst c14
          have H1 : (some true) = some r := by rw [if_pos rfl] at H; exact H
          clear H
          have H := H1
          clear H1
          obtain rfl := Option.some.inj H
          go_wp2
          go_ret
          exact ⟨by first | rfl | (simp [errW_none, errW_some] <;> rfl) | (simp [*, errW_none, errW_some] <;> rfl), by repeat (first | (with_reducible first | exact HB.out | apply below_alloc | apply pw_below_drewN | apply below_drew1 | refine below_set ?_ GE141.out) | exact HB.out)⟩
        · replace c14 := Bool.eq_false_iff.mpr c14
          subst c14
          have H1 : ((breaker_Best.f kj4 l0 a1_0 a1_1).bind fun bt144 => ((breaker_Fewest.f kj4 l0 a1_0 a1_1).bind fun bt149 => (if bt144.2.2 = 0 then (if bt149.2 = 0 then (vinculumlaw45_BreakerNumbers.j1 kj4 l0 bt144.1 bt144.2.1 bt149.1 (decide ((bt144.1.length : Int) < bt149.1)) a1_0 a1_1 a1_2) else (vinculumlaw45_BreakerNumbers.j1 kj4 l0 bt144.1 bt144.2.1 bt149.1 true a1_0 a1_1 a1_2)) else (vinculumlaw45_BreakerNumbers.j1 kj4 l0 bt144.1 bt144.2.1 bt149.1 true a1_0 a1_1 a1_2)))) = some r := by rw [if_neg (show ¬ (false = true) by decide)] at H; exact H
          clear H
          have H := H1
          clear H1
          replace H := Option.bind_eq_some_iff.mp H
          obtain ⟨⟨t144, t145, t146⟩, A150, H⟩ := H
          replace H : ((breaker_Fewest.f kj4 l0 a1_0 a1_1).bind fun bt149 => (if t146 = 0 then (if bt149.2 = 0 then (vinculumlaw45_BreakerNumbers.j1 kj4 l0 t144 t145 bt149.1 (decide ((t144.length : Int) < bt149.1)) a1_0 a1_1 a1_2) else (vinculumlaw45_BreakerNumbers.j1 kj4 l0 t144 t145 bt149.1 true a1_0 a1_1 a1_2)) else (vinculumlaw45_BreakerNumbers.j1 kj4 l0 t144 t145 bt149.1 true a1_0 a1_1 a1_2))) = some r := H
          have A15 := Aside0.mk A150
          clear A150
          replace H := Option.bind_eq_some_iff.mp H
          obtain ⟨⟨t149, t150⟩, A160, H⟩ := H
          replace H : (if t146 = 0 then (if t150 = 0 then (vinculumlaw45_BreakerNumbers.j1 kj4 l0 t144 t145 t149 (decide ((t144.length : Int) < t149)) a1_0 a1_1 a1_2) else (vinculumlaw45_BreakerNumbers.j1 kj4 l0 t144 t145 t149 true a1_0 a1_1 a1_2)) else (vinculumlaw45_BreakerNumbers.j1 kj4 l0 t144 t145 t149 true a1_0 a1_1 a1_2)) = some r := H
          have A16 := Aside0.mk A160
          clear A160
          have HC17 := Aside0.mk H
          clear H
          have hcz18_0 : wc.cell? ⟨gb141, 0, none⟩ = some (.int .i64 a1_0) := (blk_cell BK141.out 0).trans rfl
          have hcz18_1 : wc.cell? ⟨gb141, 1, none⟩ = some (.int .i64 a1_1) := (blk_cell BK141.out 1).trans rfl
          have hcz18_2 : wc.cell? ⟨gb141, 2, none⟩ = some (.int .i64 a1_2) := (blk_cell BK141.out 2).trans rfl
          have hfz18_0 := blk_frozen BK141.out 0
          have hfz18_1 := blk_frozen BK141.out 1
          have hfz18_2 := blk_frozen BK141.out 2
          go_upto_region 7 with (first | ((with_reducible refine gate_callee (f := 12) rfl ?_); refine goesL_ (some 31) rfl rfl Try.func12 (by kernel_rfl) rfl #[.slice A0 l0.length c0, .int .i64 a1_0, .int .i64 a1_1] rfl (by (try simp only [List.map_toArray, List.map_cons, List.map_nil]); first | done | rfl | (simp only [List.length_drop, List.length_take]; rfl)) ?_; (with_reducible refine (breaker_Best.calls kj4 _ _ l0 a1_0 a1_1 t144 t145 t146 _ ?side1 ?side2 A15.out).mono ?_); (case side1 => repeat (first | exact (Kd.C_below HR0.out HB.out) | (with_reducible refine Kd.C_alloc ?_ _) | (with_reducible refine Kd.C_drewN ?_ _) | (with_reducible refine Kd.C_drew ?_))); (case side2 => exact HC0.out); rintro e w19 ⟨v147, rfl, ho0, hb⟩; refine ⟨_, rfl, ?_⟩; have n0_ := Aside0.mk (Kd.R_lower ho0 (below_size (by repeat (first | (with_reducible first | exact HB.out | apply below_alloc | apply pw_below_drewN | apply below_drew1 | refine below_set ?_ GE141.out) | exact HB.out)))); have n1_ := Aside0.mk (blk_below (g := gb141) (o := .cells #[.int .i64 a1_0, .int .i64 a1_1, .int .i64 a1_2] 24 (0, 0)) (by (with_reducible repeat (first | refine blk_drewN ?_ _ | refine blk_drew ?_ | refine blk_alloc ?_ _)); exact BK141.out) hb); have n2_ := Aside0.mk (below_step (by repeat (first | (with_reducible first | exact HB.out | apply below_alloc | apply pw_below_drewN | apply below_drew1 | refine below_set ?_ GE141.out) | exact HB.out)) hb); clear BK141; clear HB; have HO148 := n0_; have BK141 := n1_; have HB := n2_; clear n0_ n1_ n2_; (try clear hb); (try clear hb2); (try clear hk); (try clear hi); (try clear ho0); have hcz20_0 : w19.cell? ⟨gb141, 0, none⟩ = some (.int .i64 a1_0) := (blk_cell BK141.out 0).trans rfl; have hcz20_1 : w19.cell? ⟨gb141, 1, none⟩ = some (.int .i64 a1_1) := (blk_cell BK141.out 1).trans rfl; have hcz20_2 : w19.cell? ⟨gb141, 2, none⟩ = some (.int .i64 a1_2) := (blk_cell BK141.out 2).trans rfl; have hfz20_0 := blk_frozen BK141.out 0; have hfz20_1 := blk_frozen BK141.out 1; have hfz20_2 := blk_frozen BK141.out 2) | ((with_reducible refine gate_callee (f := 17) rfl ?_); refine goesL_ (some 41) rfl rfl Try.func17 (by kernel_rfl) rfl #[.slice A0 l0.length c0, .int .i64 a1_0, .int .i64 a1_1] rfl (by (try simp only [List.map_toArray, List.map_cons, List.map_nil]); first | done | rfl | (simp only [List.length_drop, List.length_take]; rfl)) ?_; (with_reducible refine (breaker_Fewest.calls kj4 _ _ l0 a1_0 a1_1 t149 t150 _ ?side1 ?side2 A16.out).mono ?_); (case side1 => repeat (first | exact (Kd.C_below HR0.out HB.out) | (with_reducible refine Kd.C_alloc ?_ _) | (with_reducible refine Kd.C_drewN ?_ _) | (with_reducible refine Kd.C_drew ?_))); (case side2 => exact HC0.out); rintro e w21 ⟨rfl, hb⟩; refine ⟨_, rfl, ?_⟩; have n0_ := Aside0.mk (Kd.R_below (by (with_reducible repeat (first | apply Kd.R_alloc | apply Kd.R_drewN | apply Kd.R_drew)); exact HO148.out) hb); have n1_ := Aside0.mk (blk_below (g := gb141) (o := .cells #[.int .i64 a1_0, .int .i64 a1_1, .int .i64 a1_2] 24 (0, 0)) (by (with_reducible repeat (first | refine blk_drewN ?_ _ | refine blk_drew ?_ | refine blk_alloc ?_ _)); exact BK141.out) hb); have n2_ := Aside0.mk (below_step (by repeat (first | (with_reducible first | exact HB.out | apply below_alloc | apply pw_below_drewN | apply below_drew1 | refine below_set ?_ GE141.out) | exact HB.out)) hb); clear HO148; clear BK141; clear HB; have HO148 := n0_; have BK141 := n1_; have HB := n2_; clear n0_ n1_ n2_; (try clear hb); (try clear hb2); (try clear hk); (try clear hi)))
          (try simp only [Act.put, List.setIfInBounds_toArray, List.set_cons_zero, List.set_cons_succ])
          go_cut [55] (fun v55 wc => ∃ (kq : Nat) (x55_16 : Bool), v55 = .bool x55_16 ∧ Aside0 (vinculumlaw45_BreakerNumbers.j1 kq l0 t144 t145 t149 x55_16 a1_0 a1_1 a1_2 = some r) ∧ Aside0 (kq ≤ kj4) ∧ Aside0 (Kd.R (Kd.int .i64) 3 wc w.heap.size (fun _ => True) v147 t144) ∧ Aside0 (wc.heap[gb141]? = some (.cells #[.int .i64 a1_0, .int .i64 a1_1, .int .i64 a1_2] 24 (0, 0))) ∧ Aside0 (Below w.heap.size w wc))
          case first =>
            have H := HC17.out
            clear HC17
            by_cases c22 : t146 = 0
            · rw [if_pos c22] at H
              have c22b0 : (t146 == 0) = true := beq_iff_eq.mpr c22
              have c22b1 : (t146 != 0) = false := bne_eq_false_iff_eq.mpr c22
              clear c22
              (first | rw [c22b0] | (simp only [i64_w, i32_w]; rw [c22b0]) | skip)
              by_cases c23 : t150 = 0
              · rw [if_pos c23] at H
                have c23b0 : (t150 == 0) = true := beq_iff_eq.mpr c23
                have c23b1 : (t150 != 0) = false := bne_eq_false_iff_eq.mpr c23
                clear c23
                have H' := Aside0.mk H
                clear H
                obtain ⟨Ao24, co24, eo24⟩ := Kd.R_slice HO148.out
                subst eo24
                go_wp2
                go_meet
                case rel => exact ⟨_, (decide ((t144.length : Int) < t149)), (by first | rfl | (simp; done) | (simp [*]; done) | (simp [ne_nil_bool]; done)), H', ⟨by have := HJ4.out; first | omega | exact Nat.le_refl _⟩, ⟨by (with_reducible repeat (first | apply Kd.R_alloc | apply Kd.R_drewN | apply Kd.R_drew)); exact HO148.out⟩, ⟨by (with_reducible repeat (first | refine blk_drewN ?_ _ | refine blk_drew ?_ | refine blk_alloc ?_ _)); exact BK141.out⟩, ⟨by repeat (first | (with_reducible first | exact HB.out | apply below_alloc | apply pw_below_drewN | apply below_drew1 | refine below_set ?_ GE141.out) | exact HB.out)⟩⟩
              · rw [if_neg c23] at H
                have c23b0 : (t150 == 0) = false := beq_eq_false_iff_ne.mpr c23
                have c23b1 : (t150 != 0) = true := bne_iff_ne.mpr c23
                have H' := Aside0.mk H
                clear H
                go_wp2
                go_meet
                case rel => exact ⟨_, (true), (by first | rfl | (simp; done) | (simp [*]; done) | (simp [ne_nil_bool]; done)), H', ⟨by have := HJ4.out; first | omega | exact Nat.le_refl _⟩, ⟨by (with_reducible repeat (first | apply Kd.R_alloc | apply Kd.R_drewN | apply Kd.R_drew)); exact HO148.out⟩, ⟨by (with_reducible repeat (first | refine blk_drewN ?_ _ | refine blk_drew ?_ | refine blk_alloc ?_ _)); exact BK141.out⟩, ⟨by repeat (first | (with_reducible first | exact HB.out | apply below_alloc | apply pw_below_drewN | apply below_drew1 | refine below_set ?_ GE141.out) | exact HB.out)⟩⟩
            · rw [if_neg c22] at H
              have c22b0 : (t146 == 0) = false := beq_eq_false_iff_ne.mpr c22
              have c22b1 : (t146 != 0) = true := bne_iff_ne.mpr c22
              (first | rw [c22b0] | (simp only [i64_w, i32_w]; rw [c22b0]) | skip)
              have H' := Aside0.mk H
              clear H
              go_wp2
              go_meet
              case rel => exact ⟨_, (true), (by first | rfl | (simp; done) | (simp [*]; done) | (simp [ne_nil_bool]; done)), H', ⟨by have := HJ4.out; first | omega | exact Nat.le_refl _⟩, ⟨by (with_reducible repeat (first | apply Kd.R_alloc | apply Kd.R_drewN | apply Kd.R_drew)); exact HO148.out⟩, ⟨by (with_reducible repeat (first | refine blk_drewN ?_ _ | refine blk_drew ?_ | refine blk_alloc ?_ _)); exact BK141.out⟩, ⟨by repeat (first | (with_reducible first | exact HB.out | apply below_alloc | apply pw_below_drewN | apply below_drew1 | refine below_set ?_ GE141.out) | exact HB.out)⟩⟩
          case rest =>
            clear HC17
            try clear c1
            try clear c2
            try clear p2
            try clear c4
            try clear c9
            try clear c10
            try clear c11
            try clear c12
            try clear c14
            try clear c17
            try clear c22
            try clear c22b0
            try clear c22b1
            try clear c23
            try clear c23b0
            try clear c23b1
            try clear hcz10_0
            try clear hcz10_1
            try clear hcz10_2
            try clear hcz12_0
            try clear hcz12_1
            try clear hcz12_2
            try clear hcz18_0
            try clear hcz18_1
            try clear hcz18_2
            try clear hcz20_0
            try clear hcz20_1
            try clear hcz20_2
            try clear hfz10_0
            try clear hfz10_1
            try clear hfz10_2
            try clear hfz12_0
            try clear hfz12_1
            try clear hfz12_2
            try clear hfz18_0
            try clear hfz18_1
            try clear hfz18_2
            try clear hfz20_0
            try clear hfz20_1
            try clear hfz20_2
            try clear p2
            obtain ⟨kq, x55_16, rfl, HA, HJ16, HO_5, BK141, HB⟩ := hcut
            cases kq with
            | zero => exact absurd HA.out (by simp [vinculumlaw45_BreakerNumbers.j1])
            | succ kj16 =>
              have H := HA.out
              clear HA
              simp only [vinculumlaw45_BreakerNumbers.j1] at H
              by_cases c25 : x55_16 = true
              · subst c25
                have H1 : (none) = some r := by rw [if_pos rfl] at H; exact H
                clear H
                have H := H1
                clear H1
                exact absurd H (by simp)
              · replace c25 := Bool.eq_false_iff.mpr c25
                subst c25
                have H1 : (vinculumlaw45_BreakerNumbers.l0 kj16 l0 t144 t145 t149 0 a1_0 a1_1 a1_2) = some r := by rw [if_neg (show ¬ (false = true) by decide)] at H; exact H
                clear H
                have H := H1
                clear H1
                have H' := Aside0.mk H
                clear H
                go_wp2
                go_loopg [10] kj16 (fun kq v10 w' => ∃ (x10_3 : Int), v10 = .int .i64 x10_3 ∧ Aside0 (vinculumlaw45_BreakerNumbers.l0 kq l0 t144 t145 t149 x10_3 a1_0 a1_1 a1_2 = some r) ∧ Aside0 (kq ≤ kj16) ∧ Aside0 (Kd.R (Kd.int .i64) 3 w' w.heap.size (fun _ => True) v147 t144) ∧ Aside0 (w'.heap[gb141]? = some (.cells #[.int .i64 a1_0, .int .i64 a1_1, .int .i64 a1_2] 24 (0, 0))) ∧ Aside0 (Below w.heap.size w w'))
                case atStart => exact ⟨(0), (by first | rfl | (simp; done) | (simp [*]; done) | (simp [ne_nil_bool]; done)), H', ⟨Nat.le_refl _⟩, ⟨by (with_reducible repeat (first | apply Kd.R_alloc | apply Kd.R_drewN | apply Kd.R_drew)); exact HO_5.out⟩, ⟨by (with_reducible repeat (first | refine blk_drewN ?_ _ | refine blk_drew ?_ | refine blk_alloc ?_ _)); exact BK141.out⟩, ⟨by repeat (first | (with_reducible first | exact HB.out | apply below_alloc | apply pw_below_drewN | apply below_drew1 | refine below_set ?_ GE141.out) | exact HB.out)⟩⟩
                case round =>
                  clear H'
                  try clear c1
                  try clear c2
                  try clear p2
                  try clear c4
                  try clear c9
                  try clear c10
                  try clear c11
                  try clear c12
                  try clear c14
                  try clear c17
                  try clear c22
                  try clear c22b0
                  try clear c22b1
                  try clear c23
                  try clear c23b0
                  try clear c23b1
                  try clear c25
                  try clear hcz10_0
                  try clear hcz10_1
                  try clear hcz10_2
                  try clear hcz12_0
                  try clear hcz12_1
                  try clear hcz12_2
                  try clear hcz18_0
                  try clear hcz18_1
                  try clear hcz18_2
                  try clear hcz20_0
                  try clear hcz20_1
                  try clear hcz20_2
                  try clear hfz10_0
                  try clear hfz10_1
                  try clear hfz10_2
                  try clear hfz12_0
                  try clear hfz12_1
                  try clear hfz12_2
                  try clear hfz18_0
                  try clear hfz18_1
                  try clear hfz18_2
                  try clear hfz20_0
                  try clear hfz20_1
                  try clear hfz20_2
                  try clear p2
                  obtain ⟨x10_3, rfl, HA, HK3, HO_5, BK141, HB⟩ := hrel
                  cases gk with
                  | zero => exact absurd HA.out (by simp [vinculumlaw45_BreakerNumbers.l0])
                  | succ k3 =>
                    have H := HA.out
                    clear HA
                    simp only [vinculumlaw45_BreakerNumbers.l0] at H
                    by_cases c26 : x10_3 ≤ (wrap64 ((l0.length : Int) + 1))
                    · rw [if_pos c26] at H
                      have c26b0 : decide (x10_3 ≤ (wrap64 ((l0.length : Int) + 1))) = true := decide_eq_true c26
                      clear c26
                      replace H := Option.bind_eq_some_iff.mp H
                      obtain ⟨⟨t151, t152, t153⟩, A270, H⟩ := H
                      replace H : (if x10_3 < t149 then (vinculumlaw45_BreakerNumbers.j3 k3 l0 t144 t145 t149 x10_3 t151 t152 t153 true a1_0 a1_1 a1_2) else (vinculumlaw45_BreakerNumbers.j3 k3 l0 t144 t145 t149 x10_3 t151 t152 t153 (decide (x10_3 > (l0.length : Int))) a1_0 a1_1 a1_2)) = some r := H
                      have A27 := Aside0.mk A270
                      clear A270
                      have HC28 := Aside0.mk H
                      clear H
                      have hcz29_0 : wr.cell? ⟨gb141, 0, none⟩ = some (.int .i64 a1_0) := (blk_cell BK141.out 0).trans rfl
                      have hcz29_1 : wr.cell? ⟨gb141, 1, none⟩ = some (.int .i64 a1_1) := (blk_cell BK141.out 1).trans rfl
                      have hcz29_2 : wr.cell? ⟨gb141, 2, none⟩ = some (.int .i64 a1_2) := (blk_cell BK141.out 2).trans rfl
                      have hfz29_0 := blk_frozen BK141.out 0
                      have hfz29_1 := blk_frozen BK141.out 1
                      have hfz29_2 := blk_frozen BK141.out 2
                      go_upto_region 13 with (first | ((with_reducible refine gate_callee (f := 19) rfl ?_); refine goesL_ (some 70) rfl rfl Try.func19 (by kernel_rfl) rfl #[.slice A0 l0.length c0, .int .i64 a1_0, .int .i64 a1_1, .int .i64 x10_3] rfl (by (try simp only [List.map_toArray, List.map_cons, List.map_nil]); first | done | rfl | (simp only [List.length_drop, List.length_take]; rfl)) ?_; (with_reducible refine (breaker_Lines.calls k3 _ _ l0 a1_0 a1_1 x10_3 t151 t152 t153 _ ?side1 ?side2 A27.out).mono ?_); (case side1 => repeat (first | exact (Kd.C_below HR0.out HB.out) | (with_reducible refine Kd.C_alloc ?_ _) | (with_reducible refine Kd.C_drewN ?_ _) | (with_reducible refine Kd.C_drew ?_))); (case side2 => exact HC0.out); rintro e w30 ⟨v154, rfl, ho0, hb⟩; refine ⟨_, rfl, ?_⟩; have n0_ := Aside0.mk (Kd.R_elder' (by (with_reducible repeat (first | apply Kd.R_alloc | apply Kd.R_drewN | apply Kd.R_drew)); exact HO_5.out) (Kd.R_base ho0) hb); have n1_ := Aside0.mk (Kd.R_lower (Kd.R_new' ho0 (Kd.R_lt (by (with_reducible repeat (first | apply Kd.R_alloc | apply Kd.R_drewN | apply Kd.R_drew)); exact HO_5.out))) (below_size (by repeat (first | (with_reducible first | exact HB.out | apply below_alloc | apply pw_below_drewN | apply below_drew1 | refine below_set ?_ GE141.out) | exact HB.out)))); have n2_ := Aside0.mk (blk_below (g := gb141) (o := .cells #[.int .i64 a1_0, .int .i64 a1_1, .int .i64 a1_2] 24 (0, 0)) (by (with_reducible repeat (first | refine blk_drewN ?_ _ | refine blk_drew ?_ | refine blk_alloc ?_ _)); exact BK141.out) hb); have n3_ := Aside0.mk (below_step (by repeat (first | (with_reducible first | exact HB.out | apply below_alloc | apply pw_below_drewN | apply below_drew1 | refine below_set ?_ GE141.out) | exact HB.out)) hb); clear HO_5; clear BK141; clear HB; have HO_5 := n0_; have HO155 := n1_; have BK141 := n2_; have HB := n3_; clear n0_ n1_ n2_ n3_; (try clear hb); (try clear hb2); (try clear hk); (try clear hi); (try clear ho0)))
                      (try simp only [Act.put, List.setIfInBounds_toArray, List.set_cons_zero, List.set_cons_succ])
                      go_cut [74] (fun v74 wc => ∃ (kq : Nat) (x74_27 : Bool), v74 = .bool x74_27 ∧ Aside0 (vinculumlaw45_BreakerNumbers.j3 kq l0 t144 t145 t149 x10_3 t151 t152 t153 x74_27 a1_0 a1_1 a1_2 = some r) ∧ Aside0 (kq ≤ k3) ∧ Aside0 (Kd.R (Kd.int .i64) 3 wc w.heap.size (fun k_ => some k_ ≠ (v154 : Value).ownBlock) v147 t144) ∧ Aside0 (Kd.R (Kd.int .i64) 3 wc w.heap.size (fun k_ => some k_ ≠ (v147 : Value).ownBlock) v154 t151) ∧ Aside0 (wc.heap[gb141]? = some (.cells #[.int .i64 a1_0, .int .i64 a1_1, .int .i64 a1_2] 24 (0, 0))) ∧ Aside0 (Below w.heap.size w wc))
                      case first =>
                        have H := HC28.out
                        clear HC28
                        by_cases c31 : x10_3 < t149
                        · rw [if_pos c31] at H
                          have c31b0 : decide (x10_3 < t149) = true := decide_eq_true c31
                          clear c31
                          (first | rw [c31b0] | (simp only [i64_w, i32_w]; rw [c31b0]) | skip)
                          have H' := Aside0.mk H
                          clear H
                          go_wp2
                          go_meet
                          case rel => exact ⟨_, (true), (by first | rfl | (simp; done) | (simp [*]; done) | (simp [ne_nil_bool]; done)), H', ⟨by have := HJ4.out; have := HJ16.out; have := HK3.out; first | omega | exact Nat.le_refl _⟩, ⟨by (with_reducible repeat (first | apply Kd.R_alloc | apply Kd.R_drewN | apply Kd.R_drew)); exact Kd.R_mono HO_5.out (fun _ hk => hk.2)⟩, ⟨by (with_reducible repeat (first | apply Kd.R_alloc | apply Kd.R_drewN | apply Kd.R_drew)); exact Kd.R_mono HO155.out (fun _ hk => hk.2)⟩, ⟨by (with_reducible repeat (first | refine blk_drewN ?_ _ | refine blk_drew ?_ | refine blk_alloc ?_ _)); exact BK141.out⟩, ⟨by repeat (first | (with_reducible first | exact HB.out | apply below_alloc | apply pw_below_drewN | apply below_drew1 | refine below_set ?_ GE141.out) | exact HB.out)⟩⟩
                        · rw [if_neg c31] at H
                          have c31b0 : decide (x10_3 < t149) = false := decide_eq_false c31
                          clear c31
                          (first | rw [c31b0] | (simp only [i64_w, i32_w]; rw [c31b0]) | skip)
                          have H' := Aside0.mk H
                          clear H
                          go_wp2
                          go_meet
                          case rel => exact ⟨_, (decide (x10_3 > (l0.length : Int))), (by first | rfl | (simp; done) | (simp [*]; done) | (simp [ne_nil_bool]; done)), H', ⟨by have := HJ4.out; have := HJ16.out; have := HK3.out; first | omega | exact Nat.le_refl _⟩, ⟨by (with_reducible repeat (first | apply Kd.R_alloc | apply Kd.R_drewN | apply Kd.R_drew)); exact Kd.R_mono HO_5.out (fun _ hk => hk.2)⟩, ⟨by (with_reducible repeat (first | apply Kd.R_alloc | apply Kd.R_drewN | apply Kd.R_drew)); exact Kd.R_mono HO155.out (fun _ hk => hk.2)⟩, ⟨by (with_reducible repeat (first | refine blk_drewN ?_ _ | refine blk_drew ?_ | refine blk_alloc ?_ _)); exact BK141.out⟩, ⟨by repeat (first | (with_reducible first | exact HB.out | apply below_alloc | apply pw_below_drewN | apply below_drew1 | refine below_set ?_ GE141.out) | exact HB.out)⟩⟩
                      case rest =>
                        clear HC28
                        try clear c1
                        try clear c2
                        try clear p2
                        try clear c3
                        try clear c4
                        try clear p6
                        try clear c9
                        try clear c10
                        try clear c11
                        try clear c12
                        try clear c14
                        try clear c17
                        try clear c19
                        try clear c22
                        try clear c22b0
                        try clear c22b1
                        try clear c23
                        try clear c23b0
                        try clear c23b1
                        try clear c25
                        try clear c26
                        try clear c26b0
                        try clear c31
                        try clear c31b0
                        try clear hcz10_0
                        try clear hcz10_1
                        try clear hcz10_2
                        try clear hcz12_0
                        try clear hcz12_1
                        try clear hcz12_2
                        try clear hcz18_0
                        try clear hcz18_1
                        try clear hcz18_2
                        try clear hcz20_0
                        try clear hcz20_1
                        try clear hcz20_2
                        try clear hcz29_0
                        try clear hcz29_1
                        try clear hcz29_2
                        try clear hfz10_0
                        try clear hfz10_1
                        try clear hfz10_2
                        try clear hfz12_0
                        try clear hfz12_1
                        try clear hfz12_2
                        try clear hfz18_0
                        try clear hfz18_1
                        try clear hfz18_2
                        try clear hfz20_0
                        try clear hfz20_1
                        try clear hfz20_2
                        try clear hfz29_0
                        try clear hfz29_1
                        try clear hfz29_2
                        try clear p2
                        obtain ⟨kq, x74_27, rfl, HA, HJ27, HO_5, HO_11, BK141, HB⟩ := hcut
                        cases kq with
                        | zero => exact absurd HA.out (by simp [vinculumlaw45_BreakerNumbers.j3])
                        | succ kj27 =>
                          have H := HA.out
                          clear HA
                          simp only [vinculumlaw45_BreakerNumbers.j3] at H
                          by_cases c32 : x74_27 = true
                          · subst c32
                            have H1 : (if t153 = 8 then (vinculumlaw45_BreakerNumbers.l0 kj27 l0 t144 t145 t149 (wrap64 (x10_3 + 1)) a1_0 a1_1 a1_2) else (none)) = some r := by rw [if_pos rfl] at H; exact H
                            clear H
                            have H := H1
                            clear H1
                            by_cases c33 : t153 = 8
                            · rw [if_pos c33] at H
                              have c33b0 : (t153 == 8) = true := beq_iff_eq.mpr c33
                              have c33b1 : (t153 != 8) = false := bne_eq_false_iff_eq.mpr c33
                              clear c33
                              have H' := Aside0.mk H
                              clear H
                              go_wp2
                              go_roundg kj27
                              case measure => have := HJ4.out; have := HJ16.out; have := HK3.out; have := HJ27.out; omega
                              case rel => exact ⟨(wrap64 (x10_3 + 1)), (by first | rfl | (simp; done) | (simp [*]; done) | (simp [ne_nil_bool]; done)), H', ⟨by have := HJ4.out; have := HJ16.out; have := HK3.out; have := HJ27.out; omega⟩, ⟨by (with_reducible repeat (first | apply Kd.R_alloc | apply Kd.R_drewN | apply Kd.R_drew)); exact Kd.R_mono HO_5.out (fun _ hk => trivial)⟩, ⟨by (with_reducible repeat (first | refine blk_drewN ?_ _ | refine blk_drew ?_ | refine blk_alloc ?_ _)); exact BK141.out⟩, ⟨by repeat (first | (with_reducible first | exact HB.out | apply below_alloc | apply pw_below_drewN | apply below_drew1 | refine below_set ?_ GE141.out) | exact HB.out)⟩⟩
                            · rw [if_neg c33] at H
                              exact absurd H (by simp)
                          · replace c32 := Bool.eq_false_iff.mpr c32
                            subst c32
                            have H1 : (if t153 = 0 then (if t152 < t145 then (none) else (if (t151.length : Int) = x10_3 then (if x10_3 = (t144.length : Int) then (if t152 = t145 then ((vinculumlaw45_same.f kj27 t151 t144).bind fun t156 => (if t156 = true then (vinculumlaw45_BreakerNumbers.l0 kj27 l0 t144 t145 t149 (wrap64 (x10_3 + 1)) a1_0 a1_1 a1_2) else (none))) else (none)) else (vinculumlaw45_BreakerNumbers.l0 kj27 l0 t144 t145 t149 (wrap64 (x10_3 + 1)) a1_0 a1_1 a1_2)) else (none))) else (if t153 = 8 then (if x10_3 = t149 then (none) else (if x10_3 = (l0.length : Int) then (none) else (vinculumlaw45_BreakerNumbers.l0 kj27 l0 t144 t145 t149 (wrap64 (x10_3 + 1)) a1_0 a1_1 a1_2))) else (none))) = some r := by rw [if_neg (show ¬ (false = true) by decide)] at H; exact H
                            clear H
                            have H := H1
                            clear H1
                            by_cases c34 : t153 = 0
                            · rw [if_pos c34] at H
                              have c34b0 : (t153 == 0) = true := beq_iff_eq.mpr c34
                              have c34b1 : (t153 != 0) = false := bne_eq_false_iff_eq.mpr c34
                              clear c34
                              by_cases c35 : t152 < t145
                              · rw [if_pos c35] at H
                                exact absurd H (by simp)
                              · rw [if_neg c35] at H
                                have c35b0 : decide (t152 < t145) = false := decide_eq_false c35
                                clear c35
                                by_cases c36 : (t151.length : Int) = x10_3
                                · rw [if_pos c36] at H
                                  have c36b0 : ((t151.length : Int) == x10_3) = true := beq_iff_eq.mpr c36
                                  have c36b1 : ((t151.length : Int) != x10_3) = false := bne_eq_false_iff_eq.mpr c36
                                  clear c36
                                  by_cases c37 : x10_3 = (t144.length : Int)
                                  · rw [if_pos c37] at H
                                    have c37b0 : (x10_3 == (t144.length : Int)) = true := beq_iff_eq.mpr c37
                                    have c37b1 : (x10_3 != (t144.length : Int)) = false := bne_eq_false_iff_eq.mpr c37
                                    clear c37
                                    by_cases c38 : t152 = t145
                                    · rw [if_pos c38] at H
                                      have c38b0 : (t152 == t145) = true := beq_iff_eq.mpr c38
                                      have c38b1 : (t152 != t145) = false := bne_eq_false_iff_eq.mpr c38
                                      clear c38
                                      replace H := Option.bind_eq_some_iff.mp H
                                      obtain ⟨t156, A390, H⟩ := H
                                      replace H : (if t156 = true then (vinculumlaw45_BreakerNumbers.l0 kj27 l0 t144 t145 t149 (wrap64 (x10_3 + 1)) a1_0 a1_1 a1_2) else (none)) = some r := H
                                      have A39 := Aside0.mk A390
                                      clear A390
                                      by_cases c40 : t156 = true
                                      · subst c40
                                        have H1 : (vinculumlaw45_BreakerNumbers.l0 kj27 l0 t144 t145 t149 (wrap64 (x10_3 + 1)) a1_0 a1_1 a1_2) = some r := by rw [if_pos rfl] at H; exact H
                                        clear H
                                        have H := H1
                                        clear H1
                                        have H' := Aside0.mk H
                                        clear H
                                        obtain ⟨Ao41, co41, eo41⟩ := Kd.R_slice HO_11.out
                                        subst eo41
                                        obtain ⟨Ao42, co42, eo42⟩ := Kd.R_slice HO_5.out
                                        subst eo42
                                        go_wp2_with (first | (go_at_call 15; (with_reducible refine (vinculumlaw45_same.calls kj27 _ _ t151 _ _ t144 true _ ?side1 ?side2 ?side3 ?side4 A39.out).mono ?_); (case side1 => repeat (first | exact (Kd.R_reads' HO_11.out).2.2 | (with_reducible refine Kd.C_alloc ?_ _) | (with_reducible refine Kd.C_drewN ?_ _) | (with_reducible refine Kd.C_drew ?_))); (case side2 => exact (Kd.R_reads' HO_11.out).2.1); (case side3 => repeat (first | exact (Kd.R_reads' HO_5.out).2.2 | (with_reducible refine Kd.C_alloc ?_ _) | (with_reducible refine Kd.C_drewN ?_ _) | (with_reducible refine Kd.C_drew ?_))); (case side4 => exact (Kd.R_reads' HO_5.out).2.1); rintro e w' ⟨rfl, ⟨nd, rfl⟩⟩))
                                        go_roundg kj27
                                        case measure => have := HJ4.out; have := HJ16.out; have := HK3.out; have := HJ27.out; omega
                                        case rel => exact ⟨(wrap64 (x10_3 + 1)), (by first | rfl | (simp; done) | (simp [*]; done) | (simp [ne_nil_bool]; done)), H', ⟨by have := HJ4.out; have := HJ16.out; have := HK3.out; have := HJ27.out; omega⟩, ⟨by (with_reducible repeat (first | apply Kd.R_alloc | apply Kd.R_drewN | apply Kd.R_drew)); exact Kd.R_mono HO_5.out (fun _ hk => trivial)⟩, ⟨by (with_reducible repeat (first | refine blk_drewN ?_ _ | refine blk_drew ?_ | refine blk_alloc ?_ _)); exact BK141.out⟩, ⟨by repeat (first | (with_reducible first | exact HB.out | apply below_alloc | apply pw_below_drewN | apply below_drew1 | refine below_set ?_ GE141.out) | exact HB.out)⟩⟩
                                      · replace c40 := Bool.eq_false_iff.mpr c40
                                        subst c40
                                        have H1 : (none) = some r := by rw [if_neg (show ¬ (false = true) by decide)] at H; exact H
                                        clear H
                                        have H := H1
                                        clear H1
                                        exact absurd H (by simp)
                                    · rw [if_neg c38] at H
                                      exact absurd H (by simp)
                                  · rw [if_neg c37] at H
                                    have c37b0 : (x10_3 == (t144.length : Int)) = false := beq_eq_false_iff_ne.mpr c37
                                    have c37b1 : (x10_3 != (t144.length : Int)) = true := bne_iff_ne.mpr c37
                                    have H' := Aside0.mk H
                                    clear H
                                    obtain ⟨Ao43, co43, eo43⟩ := Kd.R_slice HO_11.out
                                    subst eo43
                                    obtain ⟨Ao44, co44, eo44⟩ := Kd.R_slice HO_5.out
                                    subst eo44
                                    go_wp2
                                    go_roundg kj27
                                    case measure => have := HJ4.out; have := HJ16.out; have := HK3.out; have := HJ27.out; omega
                                    case rel => exact ⟨(wrap64 (x10_3 + 1)), (by first | rfl | (simp; done) | (simp [*]; done) | (simp [ne_nil_bool]; done)), H', ⟨by have := HJ4.out; have := HJ16.out; have := HK3.out; have := HJ27.out; omega⟩, ⟨by (with_reducible repeat (first | apply Kd.R_alloc | apply Kd.R_drewN | apply Kd.R_drew)); exact Kd.R_mono HO_5.out (fun _ hk => trivial)⟩, ⟨by (with_reducible repeat (first | refine blk_drewN ?_ _ | refine blk_drew ?_ | refine blk_alloc ?_ _)); exact BK141.out⟩, ⟨by repeat (first | (with_reducible first | exact HB.out | apply below_alloc | apply pw_below_drewN | apply below_drew1 | refine below_set ?_ GE141.out) | exact HB.out)⟩⟩
                                · rw [if_neg c36] at H
                                  exact absurd H (by simp)
                            · rw [if_neg c34] at H
                              have c34b0 : (t153 == 0) = false := beq_eq_false_iff_ne.mpr c34
                              have c34b1 : (t153 != 0) = true := bne_iff_ne.mpr c34
                              by_cases c45 : t153 = 8
                              · rw [if_pos c45] at H
                                have c45b0 : (t153 == 8) = true := beq_iff_eq.mpr c45
                                have c45b1 : (t153 != 8) = false := bne_eq_false_iff_eq.mpr c45
                                clear c45
                                by_cases c46 : x10_3 = t149
                                · rw [if_pos c46] at H
                                  exact absurd H (by simp)
                                · rw [if_neg c46] at H
                                  have c46b0 : (x10_3 == t149) = false := beq_eq_false_iff_ne.mpr c46
                                  have c46b1 : (x10_3 != t149) = true := bne_iff_ne.mpr c46
                                  by_cases c47 : x10_3 = (l0.length : Int)
                                  · rw [if_pos c47] at H
                                    exact absurd H (by simp)
                                  · rw [if_neg c47] at H
                                    have c47b0 : (x10_3 == (l0.length : Int)) = false := beq_eq_false_iff_ne.mpr c47
                                    have c47b1 : (x10_3 != (l0.length : Int)) = true := bne_iff_ne.mpr c47
                                    have H' := Aside0.mk H
                                    clear H
                                    go_wp2
                                    go_roundg kj27
                                    case measure => have := HJ4.out; have := HJ16.out; have := HK3.out; have := HJ27.out; omega
                                    case rel => exact ⟨(wrap64 (x10_3 + 1)), (by first | rfl | (simp; done) | (simp [*]; done) | (simp [ne_nil_bool]; done)), H', ⟨by have := HJ4.out; have := HJ16.out; have := HK3.out; have := HJ27.out; omega⟩, ⟨by (with_reducible repeat (first | apply Kd.R_alloc | apply Kd.R_drewN | apply Kd.R_drew)); exact Kd.R_mono HO_5.out (fun _ hk => trivial)⟩, ⟨by (with_reducible repeat (first | refine blk_drewN ?_ _ | refine blk_drew ?_ | refine blk_alloc ?_ _)); exact BK141.out⟩, ⟨by repeat (first | (with_reducible first | exact HB.out | apply below_alloc | apply pw_below_drewN | apply below_drew1 | refine below_set ?_ GE141.out) | exact HB.out)⟩⟩
                              · rw [if_neg c45] at H
                                exact absurd H (by simp)
                    · rw [if_neg c26] at H
                      have c26b0 : decide (x10_3 ≤ (wrap64 ((l0.length : Int) + 1))) = false := decide_eq_false c26
                      clear c26
                      obtain rfl := Option.some.inj H
                      go_wp2
                      go_ret
                      exact ⟨by first | rfl | (simp [errW_none, errW_some] <;> rfl) | (simp [*, errW_none, errW_some] <;> rfl), by repeat (first | (with_reducible first | exact HB.out | apply below_alloc | apply pw_below_drewN | apply below_drew1 | refine below_set ?_ GE141.out) | exact HB.out)⟩
  · replace c4 := Bool.eq_false_iff.mpr c4
    subst c4
    have H1 : (none) = some r := by rw [if_neg (show ¬ (false = true) by decide)] at H; exact H
    clear H
    have H := H1
    clear H1
    exact absurd H (by simp)

end Go.Proofs.Ytgickognjlapmaa.PQ
