-- Written by a program of this place (wip/gen.py) with the kit's print; not trusted: Lean checks it.
import Derived.Test.YtgickognjlapmaaPRx0
import Derived.Test.YtgickognjlapmaaPRx2
import Derived.Test.YtgickognjlapmaaPRx3
import Derived.Test.YtgickognjlapmaaPRx4
import Derived.Test.YtgickognjlapmaaPRx7
import Derived.Test.YtgickognjlapmaaPRx8
namespace Go.Proofs.Ytgickognjlapmaa.PR
open Go.RowKit Go.Proofs.YtgickognjlapmaaW.PrintWords Go.Proofs.YtgickognjlapmaaW.PrintLast Go.Proofs.YtgickognjlapmaaW.PrintMore
attribute [local go_sem] max2_int min2_int max_two min_two max_three min_three max_four min_four   -- for this text's walks alone
set_option linter.unusedVariables false
set_option linter.unusedSimpArgs false

/-! ### breaker_Fewest: function 17, by hand -/
/-! ### Fewest -/
def breaker_Fewest.l (rows : Nat → List EndV) : Nat → Nat → Int
  | 0, _ => 0
  | m + 1, c => if (re (rows c) 0).2.2 = true then (c : Int) else breaker_Fewest.l rows m (c + 1)
def breaker_Fewest.f (k : Nat) (l0 : List S34) (a1 a2 : Int) : Option (Int × Int) :=
  (breaker_problem_valid.f k l0 a1 a2).bind fun v => if v = true then (if l0.length ≤ 1000 then (breaker_table.row k l0 a1 a2 l0.length).bind fun _ => some (breaker_Fewest.l (fun c => (breaker_table.row k l0 a1 a2 c).getD []) (l0.length + 1) 0, 0) else none) else some (0, 1)
set_option maxRecDepth 100000 in
set_option maxHeartbeats 4000000 in
theorem breaker_Fewest.calls (k : Nat) (A0 : Option Addr) (c0 : Nat) (l0 : List S34) (a1 a2 : Int) (r1 r2 : Int) (w : World) (hr0 : Kd.C k34 w A0 l0.length l0) (hc0 : l0.length ≤ c0) (h : breaker_Fewest.f k l0 a1 a2 = some (r1, r2)) :
    Calls Try.prog 17 #[.slice A0 l0.length c0, .int .i64 a1, .int .i64 a2] w fun e w' => e = .returned (.tuple #[.int .i64 r1, .int .i64 r2]) ∧ Below w.heap.size w w' := by
  have HR := Aside0.mk hr0
  have HC := Aside0.mk hc0
  clear hr0 hc0
  unfold breaker_Fewest.f at h
  obtain ⟨v, hv, h⟩ := Option.bind_eq_some_iff.1 h
  have HV := Aside0.mk hv
  clear hv
  have hu_ := Try.underlying46
  go_enter Try.func17, Try.ntmps17
  have HB1 := Aside0.mk ((Below.refl w.heap.size w).alloc (Nat.le_refl _) (.cells #[.slice A0 l0.length c0, .int .i64 a1, .int .i64 a2] 46))
  have HI8 := Aside0.mk (blk_new w (.cells #[.slice A0 l0.length c0, .int .i64 a1, .int .i64 a2] 46))
  cases v with
  | false =>
    rw [if_neg (by decide)] at h
    simp only [Option.some.injEq, Prod.mk.injEq] at h
    obtain ⟨rfl, rfl⟩ := h
    go_wp2_with (go_at_fn 24)
    refine (breaker_problem_valid.calls k _ _ l0 a1 a2 false _ ?s1 ?s2 HV.out).mono ?_
    case s1 => exact Kd.C_below HR.out HB1.out
    case s2 => exact HC.out
    rintro e w5 ⟨rfl, hb⟩
    have HB2 := Aside0.mk (HB1.out.trans (hb.mono HB1.out.size))
    clear hb
    go_wp2
    go_ret2
    exact ⟨rfl, HB2.out⟩
  | true =>
    rw [if_pos rfl] at h
    by_cases hlen : l0.length ≤ 1000
    case neg => rw [if_neg hlen] at h; cases h
    rw [if_pos hlen] at h
    obtain ⟨r, hr, h2⟩ := Option.bind_eq_some_iff.1 h
    clear h
    simp only [Option.some.injEq, Prod.mk.injEq] at h2
    obtain ⟨h3, rfl⟩ := h2
    have HROW := Aside0.mk (table_row_getD k l0 a1 a2 l0.length r hr)
    have HH := Aside0.mk h3
    clear h3 hr
    go_wp2_with (go_at_fn 24)
    refine (breaker_problem_valid.calls k _ _ l0 a1 a2 true _ ?s1 ?s2 HV.out).mono ?_
    case s1 => exact Kd.C_below HR.out HB1.out
    case s2 => exact HC.out
    rintro e w5 ⟨rfl, hb⟩
    have HB2 := Aside0.mk (HB1.out.trans (hb.mono HB1.out.size))
    have hj8 := blk_below HI8.out hb
    have q0 : w5.cell? ⟨w.heap.size, 0, none⟩ = some (.slice A0 l0.length c0) := (blk_cell hj8 0).trans rfl
    have q1 : w5.cell? ⟨w.heap.size, 1, none⟩ = some (.int .i64 a1) := (blk_cell hj8 1).trans rfl
    have q2 : w5.cell? ⟨w.heap.size, 2, none⟩ = some (.int .i64 a2) := (blk_cell hj8 2).trans rfl
    clear hb HI8 hj8
    go_wp2_with (go_at_fn 32)
    refine (table_calls k A0 c0 l0 a1 a2 l0.length (fun c => (breaker_table.row k l0 a1 a2 c).getD []) _ ?s1 ?s2 hlen (Nat.le_refl _) ?s3).mono ?_
    case s1 => exact Kd.C_below HR.out HB2.out
    case s2 => exact HC.out
    case s3 => exact HROW.out
    rintro e w6 ⟨gr, cs, gs, rfl, hgr, hcs, hgs, hb⟩
    have HB3 := Aside0.mk (HB2.out.trans (hb.mono HB2.out.size))
    have HGR := Aside0.mk hgr
    have HCS := Aside0.mk hcs
    have HGS := Aside0.mk hgs
    clear hb hgr hcs hgs q0 q1 q2
    go_wp2
    go_loopg [23] (l0.length + 1) (fun kq v23 w' => ∃ (c : Nat), v23 = .int .i64 (c : Int) ∧ Aside0 (c + kq = l0.length + 1) ∧ Aside0 (breaker_Fewest.l (fun c => (breaker_table.row k l0 a1 a2 c).getD []) kq c = r1) ∧ w' = w6)
    case atStart => exact ⟨0, rfl, ⟨by omega⟩, HH, rfl⟩
    case round =>
      clear HH
      obtain ⟨c, rfl, HC2, HQ, rfl⟩ := hrel
      cases gk with
      | zero =>
        have e1 : decide ((c : Int) < (l0.length : Int) + 1) = false := decide_eq_false (by have := HC2.out; omega)
        go_wp2
        go_ret2
        have := HQ.out
        simp only [breaker_Fewest.l] at this
        subst this
        exact ⟨rfl, HB3.out⟩
      | succ m =>
        have e1 : decide ((c : Int) < (l0.length : Int) + 1) = true := decide_eq_true (by have := HC2.out; omega)
        have ec : (c : Int) < (l0.length : Int) + 1 := by have := HC2.out; omega
        have el : (0 : Int) < (l0.length : Int) + 1 := by omega
        have hc := HROW.out c (by omega)
        have m0 := mkEnds_get ((breaker_table.row k l0 a1 a2 c).getD []) 0 (by have := table_row_len k l0 a1 a2 c _ hc; omega)
        have qr : wr.cell? ⟨gr, c, none⟩ = some (.slice (some ⟨gs c, 0, none⟩) (l0.length + 1) (l0.length + 1)) := (blk_cell HGR.out c).trans (HCS.out c (by omega))
        have qf : wr.cell? ⟨gs c, 2, none⟩ = some (.bool (re ((breaker_table.row k l0 a1 a2 c).getD []) 0).2.2) := (blk_cell (HGS.out c (by omega)) 2).trans m0.2.2
        have hq := HQ.out
        simp only [breaker_Fewest.l] at hq
        obtain ⟨fd, hfd⟩ : ∃ fd, (re ((breaker_table.row k l0 a1 a2 c).getD []) 0).2.2 = fd := ⟨_, rfl⟩
        rw [hfd] at qf hq
        clear hc m0 hfd HQ
        cases fd with
        | true =>
          rw [if_pos rfl] at hq
          subst hq
          go_wp2
          go_ret2
          exact ⟨rfl, HB3.out⟩
        | false =>
          rw [if_neg (by decide)] at hq
          have HQ := Aside0.mk hq
          have nwc : wrap64 ((c : Int) + 1) = (c : Int) + 1 := by unfold wrap64; omega
          clear hq
          go_wp2
          go_roundg m
          case measure => omega
          case rel => exact ⟨c + 1, rfl, ⟨by have := HC2.out; omega⟩, HQ, rfl⟩
theorem Fewest_l_congr {r r' : Nat → List EndV} : ∀ m c, (∀ j, j < c + m → r j = r' j) → breaker_Fewest.l r m c = breaker_Fewest.l r' m c
  | 0, _, _ => rfl
  | m + 1, c, h => by
    simp only [breaker_Fewest.l]
    rw [h c (by omega), Fewest_l_congr m (c + 1) (fun j hj => h j (by omega))]
theorem breaker_Fewest.mono : ∀ a0 a1 a2 k, LeO (breaker_Fewest.f k a0 a1 a2) (breaker_Fewest.f (k + 1) a0 a1 a2) := by
  intro a0 a1 a2 k
  unfold breaker_Fewest.f
  refine LeO.bind (breaker_problem_valid.mono _ _ _ _) (fun _ => ?_)
  refine LeO.ite ?_ (LeO.refl _)
  refine LeO.ite ?_ (LeO.refl _)
  intro r hr
  obtain ⟨q, hq, h⟩ := Option.bind_eq_some_iff.1 hr
  rw [table_row_mono _ _ _ _ _ q hq, Option.bind_some, Fewest_l_congr (r' := fun c => (breaker_table.row k a0 a1 a2 c).getD []) _ _ (fun j hj => table_getD_mono k a0 a1 a2 _ q hq j (by omega))]
  exact h

/-! ### vinculumref45_Fewest: function 18 -/
def vinculumref45_Fewest.l0 : Nat → List (S61) → Int → Option (Int × Int)
  | 0, _, _ => none
  | k + 1, x8, x10 => if x10 < (x8.length : Int) then (if 0 ≤ x10 then (if (rd_T61 x8 x10).f2 = true then (some (x10, 0)) else (vinculumref45_Fewest.l0 k x8 (wrap64 (x10 + 1)))) else (none)) else (some (0, 8))
def vinculumref45_Fewest.f (k : Nat) (l0 : List (S34)) (a1 : Int) (a2 : Int) : Option (Int × Int) := (vinculumref45_All.f k l0 a1 a2).bind fun bt179 => (if bt179.2 = 0 then (vinculumref45_Fewest.l0 k bt179.1 1) else (some (0, bt179.2)))
theorem vinculumref45_Fewest.mono_l : ∀ k, (∀ y0 y1, LeO (vinculumref45_Fewest.l0 k y0 y1) (vinculumref45_Fewest.l0 (k + 1) y0 y1))
  | 0 => fun _ _ r h => by simp [vinculumref45_Fewest.l0] at h
  | k + 1 => by
    have ih0 := vinculumref45_Fewest.mono_l k
    · intro y0 y1
      unfold vinculumref45_Fewest.l0
      repeat' first
      | (with_reducible exact ih0 _ _)
      | (with_reducible exact vinculumref45_All.mono _ _ _ _)
      | (with_reducible exact LeO.refl _)
      | (with_reducible exact LeO.none _)
      | (with_reducible refine LeO.ite ?_ ?_)
      | (with_reducible refine LeO.bind ?_ (fun _ => ?_))
      | exact ih0 _ _
      | exact vinculumref45_All.mono _ _ _ _
      | exact LeO.none _
      | refine LeO.ite ?_ ?_
      | refine LeO.bind ?_ (fun _ => ?_)
theorem vinculumref45_Fewest.mono : ∀ a0 a1 a2 k, LeO (vinculumref45_Fewest.f k a0 a1 a2) (vinculumref45_Fewest.f (k + 1) a0 a1 a2) := by
  intro a0 a1 a2 k
  have ih0 := vinculumref45_Fewest.mono_l k
  unfold vinculumref45_Fewest.f
  repeat' first
      | (with_reducible exact ih0 _ _)
      | (with_reducible exact vinculumref45_All.mono _ _ _ _)
      | (with_reducible exact LeO.refl _)
      | (with_reducible exact LeO.none _)
      | (with_reducible refine LeO.ite ?_ ?_)
      | (with_reducible refine LeO.bind ?_ (fun _ => ?_))
      | exact ih0 _ _
      | exact vinculumref45_All.mono _ _ _ _
      | exact LeO.none _
      | refine LeO.ite ?_ ?_
      | refine LeO.bind ?_ (fun _ => ?_)
set_option maxHeartbeats 8000000 in
set_option maxRecDepth 100000 in
theorem vinculumref45_Fewest.calls (k : Nat) (A0 : Option Addr) (c0 : Nat) (l0 : List (S34)) (a1 : Int) (a2 : Int) (r1 : Int) (r2 : Int) (w : World) (hr0 : Kd.C k34 w A0 l0.length l0) (hc0 : l0.length ≤ c0) (h : vinculumref45_Fewest.f k l0 a1 a2 = some (r1, r2)) :
    Calls Try.prog 18 #[.slice A0 l0.length c0, .int .i64 a1, .int .i64 a2] w fun e w' => e = .returned (.tuple #[.int .i64 r1, .int .i64 r2]) ∧ Below w.heap.size w w' := by
  have HR0 := Aside0.mk hr0
  have HC0 := Aside0.mk hc0
  clear hr0 hc0
  have HB := Aside0.mk (Below.refl w.heap.size w)
  have H : ((vinculumref45_All.f k l0 a1 a2).bind fun bt179 => (if bt179.2 = 0 then (vinculumref45_Fewest.l0 k bt179.1 1) else (some (0, bt179.2)))) = some (r1, r2) := h
  clear h
  replace H := Option.bind_eq_some_iff.mp H
  obtain ⟨⟨t179, t180⟩, A40, H⟩ := H
  replace H : (if t180 = 0 then (vinculumref45_Fewest.l0 k t179 1) else (some (0, t180))) = some (r1, r2) := H
  have A4 := Aside0.mk A40
  clear A40
  by_cases c5 : t180 = 0
  · rw [if_pos c5] at H
    have c5b0 : (t180 == 0) = true := beq_iff_eq.mpr c5
    have c5b1 : (t180 != 0) = false := bne_eq_false_iff_eq.mpr c5
    clear c5
    have H' := Aside0.mk H
    clear H
    go_enter Try.func18, Try.ntmps18
    go_wp2_with (first | ((with_reducible refine gate_callee (f := 31) rfl ?_); refine goesL_ (some 15) rfl rfl Try.func31 (by kernel_rfl) rfl #[.slice A0 l0.length c0, .int .i64 a1, .int .i64 a2] rfl (by (try simp only [List.map_toArray, List.map_cons, List.map_nil]); first | done | rfl | (simp only [List.length_drop, List.length_take]; rfl)) ?_; (with_reducible refine (vinculumref45_All.calls k _ _ l0 a1 a2 t179 t180 _ ?side1 ?side2 A4.out).mono ?_); (case side1 => repeat (first | exact HR0.out | (with_reducible refine Kd.C_alloc ?_ _) | (with_reducible refine Kd.C_drewN ?_ _) | (with_reducible refine Kd.C_drew ?_))); (case side2 => exact HC0.out); rintro e w6 ⟨v181, rfl, ho0, hb⟩; refine ⟨_, rfl, ?_⟩; have n0_ := Aside0.mk (Kd.S_lower ho0 (below_size (by repeat (first | (with_reducible first | exact HB.out | apply below_alloc | apply pw_below_drewN | apply below_drew1) | exact HB.out)))); have n1_ := Aside0.mk (below_step (by repeat (first | (with_reducible first | exact HB.out | apply below_alloc | apply pw_below_drewN | apply below_drew1) | exact HB.out)) hb); clear HB; have HO182 := n0_; have HB := n1_; clear n0_ n1_; (try clear hb); (try clear hb2); (try clear hk); (try clear hi); (try clear ho0)))
    go_loopg [10] k (fun kq v10 w' => ∃ (x10_1 : Int), v10 = .int .i64 x10_1 ∧ Aside0 (vinculumref45_Fewest.l0 kq t179 x10_1 = some (r1, r2)) ∧ Aside0 (kq ≤ k) ∧ Aside0 (Kd.S k61 61 w' w.heap.size (fun _ => True) v181 t179) ∧ Aside0 (Below w.heap.size w w'))
    case atStart => exact ⟨(1), (by first | rfl | (simp; done) | (simp [*]; done) | (simp [ne_nil_bool]; done)), H', ⟨Nat.le_refl _⟩, ⟨by (with_reducible repeat (first | apply Kd.S_alloc | apply Kd.S_drewN | apply Kd.S_drew)); exact HO182.out⟩, ⟨by repeat (first | (with_reducible first | exact HB.out | apply below_alloc | apply pw_below_drewN | apply below_drew1) | exact HB.out)⟩⟩
    case round =>
      clear H'
      try clear c1
      try clear p2
      try clear c3
      try clear c5
      try clear c5b0
      try clear c5b1
      obtain ⟨x10_1, rfl, HA, HK1, HO_8, HB⟩ := hrel
      cases gk with
      | zero => exact absurd HA.out (by simp [vinculumref45_Fewest.l0])
      | succ k1 =>
        have H := HA.out
        clear HA
        simp only [vinculumref45_Fewest.l0] at H
        by_cases c7 : x10_1 < (t179.length : Int)
        · rw [if_pos c7] at H
          have c7b0 : decide (x10_1 < (t179.length : Int)) = true := decide_eq_true c7
          clear c7
          by_cases c8 : 0 ≤ x10_1
          · rw [if_pos c8] at H
            have c8b0 : decide (0 ≤ x10_1) = true := decide_eq_true c8
            clear c8
            obtain ⟨bq9, hbq9⟩ : ∃ b_ : Bool, b_ = ((rd_T61 t179 x10_1).f2) := ⟨_, rfl⟩
            replace H : (if bq9 = true then (some (x10_1, 0)) else (vinculumref45_Fewest.l0 k1 t179 (wrap64 (x10_1 + 1)))) = some (r1, r2) := by rw [← hbq9] at H; exact H
            have Nbq9 := Aside0.mk hbq9
            clear hbq9
            by_cases c10 : bq9 = true
            · subst c10
              have H1 : (some (x10_1, 0)) = some (r1, r2) := by rw [if_pos rfl] at H; exact H
              clear H
              have H := H1
              clear H1
              simp only [Option.some.injEq, Prod.mk.injEq] at H
              obtain ⟨rfl, rfl⟩ := H
              obtain ⟨Ao11, co11, eo11⟩ := Kd.S_slice HO_8.out
              subst eo11
              have p183 : 0 ≤ (x10_1 : Int) := of_decide_eq_true (by first | (with_reducible assumption) | assumption)
              have q183 : x10_1 < (t179.length : Int) := of_decide_eq_true (by first | (with_reducible assumption) | assumption)
              obtain ⟨ad183, A183_0, c183_0, e183, hx183_0, hx183_1, hx183_2, hl183_0, hi183_0⟩ := at_T61 (Kd.S_reads' HO_8.out).2.2 x10_1 p183 q183
              (try rw [← Nbq9.out] at hx183_2)
              cases e183
              obtain ⟨ce183, hce183, hMe183, hcc183⟩ := Kd.S_get HO_8.out z61 x10_1 p183 (by first | exact q183 | exact of_decide_eq_true (by first | (with_reducible assumption) | assumption) | (have e_ := (Kd.S_reads' HO_8.out).1; omega))
              obtain ⟨ve183_0, rfl, ge183_0⟩ := k61_openM hMe183
              have hv183_0 := hcc183 0 _ rfl
              rw [Nat.add_zero] at hv183_0
              replace hv183_0 := Option.some.inj (hv183_0.symm.trans hx183_0)
              rw [hv183_0] at ge183_0
              have HL183_0 := Aside0.mk (show Kd.R (Kd.int .i64) 3 _ _ _ _ ((rd_T61 t179 x10_1).f0) from ge183_0)
              clear hv183_0 ge183_0
              clear hcc183 hce183
              have HR183_0 := Aside0.mk hi183_0
              have HC183_0 := Aside0.mk hl183_0
              clear hi183_0 hl183_0
              replace p183 := eq_true p183
              replace q183 := eq_true q183
              go_wp2
              go_ret2
              exact ⟨by first | rfl | (simp [errW_none, errW_some] <;> rfl) | (simp [*, errW_none, errW_some] <;> rfl), by repeat (first | (with_reducible first | exact HB.out | apply below_alloc | apply pw_below_drewN | apply below_drew1) | exact HB.out)⟩
            · replace c10 := Bool.eq_false_iff.mpr c10
              subst c10
              have H1 : (vinculumref45_Fewest.l0 k1 t179 (wrap64 (x10_1 + 1))) = some (r1, r2) := by rw [if_neg (show ¬ (false = true) by decide)] at H; exact H
              clear H
              have H := H1
              clear H1
              have H' := Aside0.mk H
              clear H
              obtain ⟨Ao12, co12, eo12⟩ := Kd.S_slice HO_8.out
              subst eo12
              have p183 : 0 ≤ (x10_1 : Int) := of_decide_eq_true (by first | (with_reducible assumption) | assumption)
              have q183 : x10_1 < (t179.length : Int) := of_decide_eq_true (by first | (with_reducible assumption) | assumption)
              obtain ⟨ad183, A183_0, c183_0, e183, hx183_0, hx183_1, hx183_2, hl183_0, hi183_0⟩ := at_T61 (Kd.S_reads' HO_8.out).2.2 x10_1 p183 q183
              (try rw [← Nbq9.out] at hx183_2)
              cases e183
              obtain ⟨ce183, hce183, hMe183, hcc183⟩ := Kd.S_get HO_8.out z61 x10_1 p183 (by first | exact q183 | exact of_decide_eq_true (by first | (with_reducible assumption) | assumption) | (have e_ := (Kd.S_reads' HO_8.out).1; omega))
              obtain ⟨ve183_0, rfl, ge183_0⟩ := k61_openM hMe183
              have hv183_0 := hcc183 0 _ rfl
              rw [Nat.add_zero] at hv183_0
              replace hv183_0 := Option.some.inj (hv183_0.symm.trans hx183_0)
              rw [hv183_0] at ge183_0
              have HL183_0 := Aside0.mk (show Kd.R (Kd.int .i64) 3 _ _ _ _ ((rd_T61 t179 x10_1).f0) from ge183_0)
              clear hv183_0 ge183_0
              clear hcc183 hce183
              have HR183_0 := Aside0.mk hi183_0
              have HC183_0 := Aside0.mk hl183_0
              clear hi183_0 hl183_0
              replace p183 := eq_true p183
              replace q183 := eq_true q183
              go_wp2
              go_roundg k1
              case measure => have := HK1.out; omega
              case rel => exact ⟨(wrap64 (x10_1 + 1)), (by first | rfl | (simp; done) | (simp [*]; done) | (simp [ne_nil_bool]; done)), H', ⟨by have := HK1.out; omega⟩, ⟨by (with_reducible repeat (first | apply Kd.S_alloc | apply Kd.S_drewN | apply Kd.S_drew)); exact HO_8.out⟩, ⟨by repeat (first | (with_reducible first | exact HB.out | apply below_alloc | apply pw_below_drewN | apply below_drew1) | exact HB.out)⟩⟩
          · rw [if_neg c8] at H
            exact absurd H (by simp)
        · rw [if_neg c7] at H
          have c7b0 : decide (x10_1 < (t179.length : Int)) = false := decide_eq_false c7
          clear c7
          simp only [Option.some.injEq, Prod.mk.injEq] at H
          obtain ⟨rfl, rfl⟩ := H
          obtain ⟨Ao13, co13, eo13⟩ := Kd.S_slice HO_8.out
          subst eo13
          go_wp2
          go_ret2
          exact ⟨by first | rfl | (simp [errW_none, errW_some] <;> rfl) | (simp [*, errW_none, errW_some] <;> rfl), by repeat (first | (with_reducible first | exact HB.out | apply below_alloc | apply pw_below_drewN | apply below_drew1) | exact HB.out)⟩
  · rw [if_neg c5] at H
    have c5b0 : (t180 == 0) = false := beq_eq_false_iff_ne.mpr c5
    have c5b1 : (t180 != 0) = true := bne_iff_ne.mpr c5
    simp only [Option.some.injEq, Prod.mk.injEq] at H
    obtain ⟨rfl, rfl⟩ := H
    go_enter Try.func18, Try.ntmps18
    go_wp2_with (first | ((with_reducible refine gate_callee (f := 31) rfl ?_); refine goesL_ (some 15) rfl rfl Try.func31 (by kernel_rfl) rfl #[.slice A0 l0.length c0, .int .i64 a1, .int .i64 a2] rfl (by (try simp only [List.map_toArray, List.map_cons, List.map_nil]); first | done | rfl | (simp only [List.length_drop, List.length_take]; rfl)) ?_; (with_reducible refine (vinculumref45_All.calls k _ _ l0 a1 a2 t179 t180 _ ?side1 ?side2 A4.out).mono ?_); (case side1 => repeat (first | exact HR0.out | (with_reducible refine Kd.C_alloc ?_ _) | (with_reducible refine Kd.C_drewN ?_ _) | (with_reducible refine Kd.C_drew ?_))); (case side2 => exact HC0.out); rintro e w14 ⟨v181, rfl, ho0, hb⟩; refine ⟨_, rfl, ?_⟩; have n0_ := Aside0.mk (Kd.S_lower ho0 (below_size (by repeat (first | (with_reducible first | exact HB.out | apply below_alloc | apply pw_below_drewN | apply below_drew1) | exact HB.out)))); have n1_ := Aside0.mk (below_step (by repeat (first | (with_reducible first | exact HB.out | apply below_alloc | apply pw_below_drewN | apply below_drew1) | exact HB.out)) hb); clear HB; have HO182 := n0_; have HB := n1_; clear n0_ n1_; (try clear hb); (try clear hb2); (try clear hk); (try clear hi); (try clear ho0)))
    go_ret2
    exact ⟨by first | rfl | (simp [errW_none, errW_some] <;> rfl) | (simp [*, errW_none, errW_some] <;> rfl), by repeat (first | (with_reducible first | exact HB.out | apply below_alloc | apply pw_below_drewN | apply below_drew1) | exact HB.out)⟩

/-! ### vinculumlaw45_BreakerBest: function 5 -/
def vinculumlaw45_BreakerBest.f (k : Nat) (l0 : List (S34)) (a1_0 : Int) (a1_1 : Int) (a1_2 : Int) : Option (Bool) := (vinculumlaw45_awake.f k).bind fun t185 => (if t185 = true then (if (l0.length : Int) > 10 then (some true) else ((some (([] : List (S34)) : List (S34))).bind fun y186 => (if y186.length + l0.length < 5864062014805 then ((breaker_Best.f k (y186 ++ l0) a1_0 a1_1).bind fun bt192 => ((vinculumref45_Best.f k l0 a1_0 a1_1).bind fun bt197 => ((breaker_Fewest.f k l0 a1_0 a1_1).bind fun bt202 => ((vinculumref45_Fewest.f k l0 a1_0 a1_1).bind fun bt204 => ((vinculumlaw45_same.f k bt192.1 bt197.1).bind fun t206 => (if t206 = true then (if bt192.2.1 = bt197.2.1 then (if bt192.2.2 = bt197.2.2 then (if bt202.1 = bt204.1 then (some (bt202.2 == bt204.2)) else (none)) else (none)) else (none)) else (none))))))) else (none)))) else (none))
theorem vinculumlaw45_BreakerBest.mono : ∀ a0 a1 a2 a3 k, LeO (vinculumlaw45_BreakerBest.f k a0 a1 a2 a3) (vinculumlaw45_BreakerBest.f (k + 1) a0 a1 a2 a3) := by
  intro a0 a1 a2 a3 k
  unfold vinculumlaw45_BreakerBest.f
  repeat' first
      | (with_reducible exact breaker_Best.mono _ _ _ _)
      | (with_reducible exact breaker_Fewest.mono _ _ _ _)
      | (with_reducible exact vinculumlaw45_awake.mono _)
      | (with_reducible exact vinculumlaw45_same.mono _ _ _)
      | (with_reducible exact vinculumref45_Best.mono _ _ _ _)
      | (with_reducible exact vinculumref45_Fewest.mono _ _ _ _)
      | (with_reducible exact LeO.refl _)
      | (with_reducible exact LeO.none _)
      | (with_reducible refine LeO.ite ?_ ?_)
      | (with_reducible refine LeO.bind ?_ (fun _ => ?_))
      | exact breaker_Best.mono _ _ _ _
      | exact breaker_Fewest.mono _ _ _ _
      | exact vinculumlaw45_awake.mono _
      | exact vinculumlaw45_same.mono _ _ _
      | exact vinculumref45_Best.mono _ _ _ _
      | exact vinculumref45_Fewest.mono _ _ _ _
      | exact LeO.none _
      | refine LeO.ite ?_ ?_
      | refine LeO.bind ?_ (fun _ => ?_)
def vinculumlaw45_BreakerBest.T5 : Bool × List (List Nat × List Nat) := (true, [([], []), ([], []), ([0, 1], [0, 1]), ([], []), ([3], [3]), ([], []), ([5], [5]), ([2, 4, 6, 2], [2, 4, 6]), ([7], [7]), ([8], [8]), ([8], [8]), ([8], [8]), ([9, 7, 0, 1, 2, 3, 4, 5, 6, 7, 8, 9], [9]), ([10, 12, 0, 1, 2, 3, 4, 5, 6, 7, 8, 9, 10, 12], [10]), ([11, 13, 0, 1, 2, 3, 4, 5, 6, 7, 8, 9, 10, 11, 12, 13], [11])])
def vinculumlaw45_BreakerBest.B5 : List Nat := [0, 0, 3, 0, 8, 0, 32, 127, 255, 511, 511, 511, 1023, 6143, 16383]
theorem vinculumlaw45_BreakerBest.tab5 : rtab .any (opsOf Try.f5 5) = vinculumlaw45_BreakerBest.T5 := by kernel_rfl
theorem vinculumlaw45_BreakerBest.bits5 : waitsOk vinculumlaw45_BreakerBest.T5.2 vinculumlaw45_BreakerBest.B5 = true := by kernel_rfl
set_option maxHeartbeats 8000000 in
set_option maxRecDepth 100000 in
theorem vinculumlaw45_BreakerBest.calls (k : Nat) (A0 : Option Addr) (c0 : Nat) (l0 : List (S34)) (a1_0 : Int) (a1_1 : Int) (a1_2 : Int) (r : Bool) (w : World) (hr0 : Kd.C k34 w A0 l0.length l0) (hc0 : l0.length ≤ c0) (h : vinculumlaw45_BreakerBest.f k l0 a1_0 a1_1 a1_2 = some r) :
    Calls Try.prog 5 #[.slice A0 l0.length c0, .agg #[.int .i64 a1_0, .int .i64 a1_1, .int .i64 a1_2]] w fun e w' => e = .returned (.bool r) ∧ Below w.heap.size w w' := by
  have hu24 := Try.underlying24
  have HR0 := Aside0.mk hr0
  have HC0 := Aside0.mk hc0
  clear hr0 hc0
  have HB := Aside0.mk (Below.refl w.heap.size w)
  have H : ((vinculumlaw45_awake.f k).bind fun t185 => (if t185 = true then (if (l0.length : Int) > 10 then (some true) else ((some (([] : List (S34)) : List (S34))).bind fun y186 => (if y186.length + l0.length < 5864062014805 then ((breaker_Best.f k (y186 ++ l0) a1_0 a1_1).bind fun bt192 => ((vinculumref45_Best.f k l0 a1_0 a1_1).bind fun bt197 => ((breaker_Fewest.f k l0 a1_0 a1_1).bind fun bt202 => ((vinculumref45_Fewest.f k l0 a1_0 a1_1).bind fun bt204 => ((vinculumlaw45_same.f k bt192.1 bt197.1).bind fun t206 => (if t206 = true then (if bt192.2.1 = bt197.2.1 then (if bt192.2.2 = bt197.2.2 then (if bt202.1 = bt204.1 then (some (bt202.2 == bt204.2)) else (none)) else (none)) else (none)) else (none))))))) else (none)))) else (none))) = some r := h
  clear h
  replace H := Option.bind_eq_some_iff.mp H
  obtain ⟨t185, A30, H⟩ := H
  replace H : (if t185 = true then (if (l0.length : Int) > 10 then (some true) else ((some (([] : List (S34)) : List (S34))).bind fun y186 => (if y186.length + l0.length < 5864062014805 then ((breaker_Best.f k (y186 ++ l0) a1_0 a1_1).bind fun bt192 => ((vinculumref45_Best.f k l0 a1_0 a1_1).bind fun bt197 => ((breaker_Fewest.f k l0 a1_0 a1_1).bind fun bt202 => ((vinculumref45_Fewest.f k l0 a1_0 a1_1).bind fun bt204 => ((vinculumlaw45_same.f k bt192.1 bt197.1).bind fun t206 => (if t206 = true then (if bt192.2.1 = bt197.2.1 then (if bt192.2.2 = bt197.2.2 then (if bt202.1 = bt204.1 then (some (bt202.2 == bt204.2)) else (none)) else (none)) else (none)) else (none))))))) else (none)))) else (none)) = some r := H
  have A3 := Aside0.mk A30
  clear A30
  by_cases c4 : t185 = true
  · subst c4
    have H1 : (if (l0.length : Int) > 10 then (some true) else ((some (([] : List (S34)) : List (S34))).bind fun y186 => (if y186.length + l0.length < 5864062014805 then ((breaker_Best.f k (y186 ++ l0) a1_0 a1_1).bind fun bt192 => ((vinculumref45_Best.f k l0 a1_0 a1_1).bind fun bt197 => ((breaker_Fewest.f k l0 a1_0 a1_1).bind fun bt202 => ((vinculumref45_Fewest.f k l0 a1_0 a1_1).bind fun bt204 => ((vinculumlaw45_same.f k bt192.1 bt197.1).bind fun t206 => (if t206 = true then (if bt192.2.1 = bt197.2.1 then (if bt192.2.2 = bt197.2.2 then (if bt202.1 = bt204.1 then (some (bt202.2 == bt204.2)) else (none)) else (none)) else (none)) else (none))))))) else (none)))) = some r := by rw [if_pos rfl] at H; exact H
    clear H
    have H := H1
    clear H1
    by_cases c5 : (l0.length : Int) > 10
    · rw [if_pos c5] at H
      have c5b0 : decide (10 < (l0.length : Int)) = true := decide_eq_true c5
      have c5b1 : decide (10 < l0.length) = true := decide_eq_true (by omega)
      clear c5
      obtain rfl := Option.some.inj H
      go_enter Try.func5, Try.ntmps5
      go_wp2_with (first | ((with_reducible refine gate_dst (N := 3) rfl ?_); refine box_event ?hg (N := 3) ?hd (cs := #[.int .i64 a1_0, .int .i64 a1_1, .int .i64 a1_2]) (t := 24) ?hr ?_; (case hd => rfl); (case hg => rfl); (case hr => first | (go_simp; done) | (go_simp; rfl)); intro gb184 hg w6 hbox hb; have n0_ := Aside0.mk (below_step (by repeat (first | (with_reducible first | exact HB.out | apply below_alloc | apply pw_below_drewN | apply below_drew1) | exact HB.out)) hb); have n1_ := Aside0.mk (hbox); have n2_ := Aside0.mk ((by rw [hg]; exact (below_size (by repeat (first | (with_reducible first | exact HB.out | apply below_alloc | apply pw_below_drewN | apply below_drew1) | exact HB.out))) : w.heap.size ≤ gb184)); have n3_ := Aside0.mk ((by rw [hg]; exact (below_size (by repeat (first | (with_reducible first | exact HB.out | apply below_alloc | apply pw_below_drewN | apply below_drew1) | exact HB.out))) : w.heap.size ≤ gb184)); clear HB; have HB := n0_; have BK184 := n1_; have GW184 := n2_; have GE184 := n3_; clear n0_ n1_ n2_ n3_; clear hb hbox hg) | ((with_reducible refine gate_callee (f := 10) rfl ?_); refine goesL_ (some 15) rfl rfl Try.func10 (by kernel_rfl) rfl #[] rfl (by (try simp only [List.map_toArray, List.map_cons, List.map_nil]); first | done | rfl | (simp only [List.length_drop, List.length_take]; rfl)) ?_; (with_reducible refine (vinculumlaw45_awake.calls k  true _ A3.out).mono ?_); rintro e w7 ⟨rfl, hb⟩; refine ⟨_, rfl, ?_⟩; have n0_ := Aside0.mk (blk_below (g := gb184) (o := .cells #[.int .i64 a1_0, .int .i64 a1_1, .int .i64 a1_2] 24 (0, 0)) (by (with_reducible repeat (first | refine blk_drewN ?_ _ | refine blk_drew ?_ | refine blk_alloc ?_ _)); exact BK184.out) hb); have n1_ := Aside0.mk (below_step (by repeat (first | (with_reducible first | exact HB.out | apply below_alloc | apply pw_below_drewN | apply below_drew1 | refine below_set ?_ GE184.out) | exact HB.out)) hb); clear BK184; clear HB; have BK184 := n0_; have HB := n1_; clear n0_ n1_; (try clear hb); (try clear hb2); (try clear hk); (try clear hi)))
      go_ret
      exact ⟨by first | rfl | (simp [errW_none, errW_some] <;> rfl) | (simp [*, errW_none, errW_some] <;> rfl), by repeat (first | (with_reducible first | exact HB.out | apply below_alloc | apply pw_below_drewN | apply below_drew1 | refine below_set ?_ GE184.out) | exact HB.out)⟩
    · rw [if_neg c5] at H
      have c5b0 : decide (10 < (l0.length : Int)) = false := decide_eq_false c5
      have c5b1 : decide (10 < l0.length) = false := decide_eq_false (by omega)
      clear c5
      obtain ⟨y186, hy186⟩ : ∃ y_ : List (S34), y_ = (([] : List (S34))) := ⟨_, rfl⟩
      replace H : (if y186.length + l0.length < 5864062014805 then ((breaker_Best.f k (y186 ++ l0) a1_0 a1_1).bind fun bt192 => ((vinculumref45_Best.f k l0 a1_0 a1_1).bind fun bt197 => ((breaker_Fewest.f k l0 a1_0 a1_1).bind fun bt202 => ((vinculumref45_Fewest.f k l0 a1_0 a1_1).bind fun bt204 => ((vinculumlaw45_same.f k bt192.1 bt197.1).bind fun t206 => (if t206 = true then (if bt192.2.1 = bt197.2.1 then (if bt192.2.2 = bt197.2.2 then (if bt202.1 = bt204.1 then (some (bt202.2 == bt204.2)) else (none)) else (none)) else (none)) else (none))))))) else (none)) = some r := by first | (rw [hy186]; with_reducible exact H) | (have H2_ := (Option.bind_some _ _).symm.trans H; rw [hy186]; with_reducible exact H2_) | (have H2_ := (Option.bind_some _ _).symm.trans H; with_reducible exact H2_) | with_reducible exact H | (rw [hy186]; exact H) | exact H
      have Ny186 := Aside0.mk hy186
      clear hy186
      by_cases c8 : y186.length + l0.length < 5864062014805
      · rw [if_pos c8] at H
        have LMc8 := Aside0.mk c8
        clear c8
        obtain ⟨y189, hy189⟩ : ∃ y_ : List (S34), y_ = (y186 ++ l0) := ⟨_, rfl⟩
        replace H : ((breaker_Best.f k y189 a1_0 a1_1).bind fun bt192 => ((vinculumref45_Best.f k l0 a1_0 a1_1).bind fun bt197 => ((breaker_Fewest.f k l0 a1_0 a1_1).bind fun bt202 => ((vinculumref45_Fewest.f k l0 a1_0 a1_1).bind fun bt204 => ((vinculumlaw45_same.f k bt192.1 bt197.1).bind fun t206 => (if t206 = true then (if bt192.2.1 = bt197.2.1 then (if bt192.2.2 = bt197.2.2 then (if bt202.1 = bt204.1 then (some (bt202.2 == bt204.2)) else (none)) else (none)) else (none)) else (none))))))) = some r := by first | (rw [hy189]; with_reducible exact H) | (have H2_ := (Option.bind_some _ _).symm.trans H; rw [hy189]; with_reducible exact H2_) | (have H2_ := (Option.bind_some _ _).symm.trans H; with_reducible exact H2_) | with_reducible exact H | (rw [hy189]; exact H) | exact H
        have Ny189 := Aside0.mk hy189
        clear hy189
        replace H := Option.bind_eq_some_iff.mp H
        obtain ⟨⟨t192, t193, t194⟩, A90, H⟩ := H
        replace H : ((vinculumref45_Best.f k l0 a1_0 a1_1).bind fun bt197 => ((breaker_Fewest.f k l0 a1_0 a1_1).bind fun bt202 => ((vinculumref45_Fewest.f k l0 a1_0 a1_1).bind fun bt204 => ((vinculumlaw45_same.f k t192 bt197.1).bind fun t206 => (if t206 = true then (if t193 = bt197.2.1 then (if t194 = bt197.2.2 then (if bt202.1 = bt204.1 then (some (bt202.2 == bt204.2)) else (none)) else (none)) else (none)) else (none)))))) = some r := H
        have A9 := Aside0.mk A90
        clear A90
        replace H := Option.bind_eq_some_iff.mp H
        obtain ⟨⟨t197, t198, t199⟩, A100, H⟩ := H
        replace H : ((breaker_Fewest.f k l0 a1_0 a1_1).bind fun bt202 => ((vinculumref45_Fewest.f k l0 a1_0 a1_1).bind fun bt204 => ((vinculumlaw45_same.f k t192 t197).bind fun t206 => (if t206 = true then (if t193 = t198 then (if t194 = t199 then (if bt202.1 = bt204.1 then (some (bt202.2 == bt204.2)) else (none)) else (none)) else (none)) else (none))))) = some r := H
        have A10 := Aside0.mk A100
        clear A100
        replace H := Option.bind_eq_some_iff.mp H
        obtain ⟨⟨t202, t203⟩, A110, H⟩ := H
        replace H : ((vinculumref45_Fewest.f k l0 a1_0 a1_1).bind fun bt204 => ((vinculumlaw45_same.f k t192 t197).bind fun t206 => (if t206 = true then (if t193 = t198 then (if t194 = t199 then (if t202 = bt204.1 then (some (t203 == bt204.2)) else (none)) else (none)) else (none)) else (none)))) = some r := H
        have A11 := Aside0.mk A110
        clear A110
        replace H := Option.bind_eq_some_iff.mp H
        obtain ⟨⟨t204, t205⟩, A120, H⟩ := H
        replace H : ((vinculumlaw45_same.f k t192 t197).bind fun t206 => (if t206 = true then (if t193 = t198 then (if t194 = t199 then (if t202 = t204 then (some (t203 == t205)) else (none)) else (none)) else (none)) else (none))) = some r := H
        have A12 := Aside0.mk A120
        clear A120
        replace H := Option.bind_eq_some_iff.mp H
        obtain ⟨t206, A130, H⟩ := H
        replace H : (if t206 = true then (if t193 = t198 then (if t194 = t199 then (if t202 = t204 then (some (t203 == t205)) else (none)) else (none)) else (none)) else (none)) = some r := H
        have A13 := Aside0.mk A130
        clear A130
        by_cases c14 : t206 = true
        · subst c14
          have H1 : (if t193 = t198 then (if t194 = t199 then (if t202 = t204 then (some (t203 == t205)) else (none)) else (none)) else (none)) = some r := by rw [if_pos rfl] at H; exact H
          clear H
          have H := H1
          clear H1
          by_cases c15 : t193 = t198
          · rw [if_pos c15] at H
            have c15b0 : (t193 == t198) = true := beq_iff_eq.mpr c15
            have c15b1 : (t193 != t198) = false := bne_eq_false_iff_eq.mpr c15
            clear c15
            by_cases c16 : t194 = t199
            · rw [if_pos c16] at H
              have c16b0 : (t194 == t199) = true := beq_iff_eq.mpr c16
              have c16b1 : (t194 != t199) = false := bne_eq_false_iff_eq.mpr c16
              clear c16
              by_cases c17 : t202 = t204
              · rw [if_pos c17] at H
                have c17b0 : (t202 == t204) = true := beq_iff_eq.mpr c17
                have c17b1 : (t202 != t204) = false := bne_eq_false_iff_eq.mpr c17
                clear c17
                obtain rfl := Option.some.inj H
                go_enter Try.func5, Try.ntmps5
                try go_wp2_with (first | ((with_reducible refine gate_dst (N := 3) rfl ?_); refine box_event ?hg (N := 3) ?hd (cs := #[.int .i64 a1_0, .int .i64 a1_1, .int .i64 a1_2]) (t := 24) ?hr ?_; (case hd => rfl); (case hg => rfl); (case hr => first | (go_simp; done) | (go_simp; rfl)); intro gb184 hg w18 hbox hb; have n0_ := Aside0.mk (below_step (by repeat (first | (with_reducible first | exact HB.out | apply below_alloc | apply pw_below_drewN | apply below_drew1) | exact HB.out)) hb); have n1_ := Aside0.mk (hbox); have n2_ := Aside0.mk ((by rw [hg]; exact (below_size (by repeat (first | (with_reducible first | exact HB.out | apply below_alloc | apply pw_below_drewN | apply below_drew1) | exact HB.out))) : w.heap.size ≤ gb184)); have n3_ := Aside0.mk ((by rw [hg]; exact (below_size (by repeat (first | (with_reducible first | exact HB.out | apply below_alloc | apply pw_below_drewN | apply below_drew1) | exact HB.out))) : w.heap.size ≤ gb184)); clear HB; have HB := n0_; have BK184 := n1_; have GW184 := n2_; have GE184 := n3_; clear n0_ n1_ n2_ n3_; clear hb hbox hg) | ((with_reducible refine gate_callee (f := 10) rfl ?_); refine goesL_ (some 15) rfl rfl Try.func10 (by kernel_rfl) rfl #[] rfl (by (try simp only [List.map_toArray, List.map_cons, List.map_nil]); first | done | rfl | (simp only [List.length_drop, List.length_take]; rfl)) ?_; (with_reducible refine (vinculumlaw45_awake.calls k  true _ A3.out).mono ?_); rintro e w19 ⟨rfl, hb⟩; refine ⟨_, rfl, ?_⟩; have n0_ := Aside0.mk (blk_below (g := gb184) (o := .cells #[.int .i64 a1_0, .int .i64 a1_1, .int .i64 a1_2] 24 (0, 0)) (by (with_reducible repeat (first | refine blk_drewN ?_ _ | refine blk_drew ?_ | refine blk_alloc ?_ _)); exact BK184.out) hb); have n1_ := Aside0.mk (below_step (by repeat (first | (with_reducible first | exact HB.out | apply below_alloc | apply pw_below_drewN | apply below_drew1 | refine below_set ?_ GE184.out) | exact HB.out)) hb); clear BK184; clear HB; have BK184 := n0_; have HB := n1_; clear n0_ n1_; (try clear hb); (try clear hb2); (try clear hk); (try clear hi)))
                have n0_ := Aside0.mk (blk_drew BK184.out)
                have n1_ := Aside0.mk (below_drew1 HB.out)
                clear BK184
                clear HB
                have BK184 := n0_
                have HB := n1_
                clear n0_ n1_
                refine start_ (n := 15) (S := fun w' => w'.cell? ⟨gb184, 0, none⟩ = some (.int .i64 a1_0) ∧ w'.cell? ⟨gb184, 1, none⟩ = some (.int .i64 a1_1) ∧ w'.cell? ⟨gb184, 2, none⟩ = some (.int .i64 a1_2)) (ds := []) #[false, false, false, false, false, false, false, false, false, false, false, false, false, false, false] (by kernel_rfl) rfl rfl ⟨(blk_cell BK184.out 0).trans rfl, (blk_cell BK184.out 1).trans rfl, (blk_cell BK184.out 2).trans rfl⟩ (fun hHeld => ?_); refine with_tabW vinculumlaw45_BreakerBest.tab5 vinculumlaw45_BreakerBest.bits5 (fun HT_ HW_ => ?_)
                generalize w19.drew = w20 at BK184 HB hHeld ⊢
                refine pure_ (i := 1) (N := some 22) (v := ?_) (a' := ?_) #[false, true, false, false, false, false, false, false, false, false, false, false, false, false, false] rfl rfl (any_of HT_.out (by kernel_rfl)) (fun _ _ _ h => h) (Or.inl ⟨by rfl, ?_⟩) ?_ ?_
                rotate_left
                · intro w'
                  go_simp
                  with_reducible rfl
                rotate_left
                · simp only [Act.put, List.setIfInBounds_toArray, List.set_cons_zero, List.set_cons_succ, i64_w, i32_w]
                  rfl
                refine pure_ (i := 3) (N := some 24) (v := ?_) (a' := ?_) #[false, true, false, true, false, false, false, false, false, false, false, false, false, false, false] rfl rfl (any_of HT_.out (by kernel_rfl)) (fun _ _ _ h => h) (Or.inl ⟨by rfl, ?_⟩) ?_ ?_
                rotate_left
                · intro w'
                  go_simp
                  with_reducible rfl
                rotate_left
                · simp only [Act.put, List.setIfInBounds_toArray, List.set_cons_zero, List.set_cons_succ, i64_w, i32_w]
                  rfl
                refine pure_ (i := 5) (N := some 26) (v := ?_) (a' := ?_) #[false, true, false, true, false, true, false, false, false, false, false, false, false, false, false] rfl rfl (any_of HT_.out (by kernel_rfl)) (fun _ _ _ h => h) (Or.inl ⟨by rfl, ?_⟩) ?_ ?_
                rotate_left
                · intro w'
                  go_simp
                  with_reducible rfl
                rotate_left
                · simp only [Act.put, List.setIfInBounds_toArray, List.set_cons_zero, List.set_cons_succ, i64_w, i32_w]
                  rfl
                refine take_ (i := 4) (N := some 25) (v := ?_) (a' := ?_) #[false, true, false, true, true, true, false, false, false, false, false, false, false, false, false] rfl rfl (take_ofW HT_.out HW_.out (by kernel_rfl)) (fun _ _ _ h => h) (Or.inl ⟨by rfl, ?_⟩) hHeld ?_ ?_
                rotate_left
                · rintro w' ⟨s0, s1, s2⟩
                  go_simp
                  with_reducible rfl
                rotate_left
                · simp only [Act.put, List.setIfInBounds_toArray, List.set_cons_zero, List.set_cons_succ, i64_w, i32_w]
                  rfl
                refine take_ (i := 6) (N := some 27) (v := ?_) (a' := ?_) #[false, true, false, true, true, true, true, false, false, false, false, false, false, false, false] rfl rfl (take_ofW HT_.out HW_.out (by kernel_rfl)) (fun _ _ _ h => h) (Or.inl ⟨by rfl, ?_⟩) hHeld ?_ ?_
                rotate_left
                · rintro w' ⟨s0, s1, s2⟩
                  go_simp
                  with_reducible rfl
                rotate_left
                · simp only [Act.put, List.setIfInBounds_toArray, List.set_cons_zero, List.set_cons_succ, i64_w, i32_w]
                  rfl
                refine one_ (i := 0) (N := some 21) #[true, true, false, true, true, true, true, false, false, false, false, false, false, false, false] rfl rfl (one_of HT_.out (by kernel_rfl)) (by decide) (fun K hK => ?_)
                refine Kd.R_lit_step k34 _ 34 ?hg (N := 21) ?hd (xs := ([] : List (S34))) (inner := []) (ok := fun _ => True) (okp := fun _ => True) ?hr ?hp (fun _ hk => hk) trivial (Below.refl _ _) (Nat.le_refl _) (by simp) ?_; (case hd => rfl); (case hg => rfl); (case hr => first | (go_simp; done) | (go_simp; rfl)); (case hp => exact (Reps.none _ _))
                intro v187 w21 ho22 hb hg_ hnew_
                clear hg_ hnew_
                (first | rw [← Ny186.out] at ho22 | (simp only [Int.reduceToNat] at ho22; rw [← Ny186.out] at ho22))
                have n0_ := Aside0.mk (Kd.R_lower ho22 (below_size (by repeat (first | (with_reducible first | exact HB.out | apply below_alloc | apply pw_below_drewN | apply below_drew1 | refine below_set ?_ GE184.out) | exact HB.out))))
                have n1_ := Aside0.mk (blk_below (g := gb184) (o := .cells #[.int .i64 a1_0, .int .i64 a1_1, .int .i64 a1_2] 24 (0, 0)) (by (with_reducible repeat (first | refine blk_drewN ?_ _ | refine blk_drew ?_ | refine blk_alloc ?_ _)); exact BK184.out) hb)
                have n2_ := Aside0.mk (below_step (by repeat (first | (with_reducible first | exact HB.out | apply below_alloc | apply pw_below_drewN | apply below_drew1 | refine below_set ?_ GE184.out) | exact HB.out)) hb)
                clear BK184
                clear HB
                have HO188 := n0_
                have BK184 := n1_
                have HB := n2_
                clear n0_ n1_ n2_
                clear hb ho22
                refine hK.out _ _ ⟨(blk_cell BK184.out 0).trans rfl, (blk_cell BK184.out 1).trans rfl, (blk_cell BK184.out 2).trans rfl⟩ (fun hHeld => ?_)
                clear hK K
                refine norm_ (a' := ?_) ?_ ?_
                rotate_left
                · show Act.put _ (some 21) _ = _
                  simp only [Act.put, List.setIfInBounds_toArray, List.set_cons_zero, List.set_cons_succ, i64_w, i32_w]
                  rfl
                refine one_ (i := 2) (N := some 23) #[true, true, true, true, true, true, true, false, false, false, false, false, false, false, false] rfl rfl (one_of HT_.out (by kernel_rfl)) (by decide) (fun K hK => ?_)
                refine Kd.R_append_rows_step k34 (w0 := w) w.heap.size (by rfl) (.tmp 21) (.tmp 22) 22 34 (.agg #[(.int .i64 0), (.int .i64 0), (.int .i64 0)]) 24 rfl Try.underlying22 info34 rfl (by decide) (by omega) v187 y186 l0 _ _ _ (fun _ => True) (fun _ => False) rfl rfl ?aO ?aR (fun _ _ h => h) (fun _ h => h.elim) ?aF ?aB ?aS ?aL ?_
                (case aR => repeat (first | exact (Kd.C_below HR0.out HB.out) | (with_reducible refine Kd.C_alloc ?_ _) | (with_reducible refine Kd.C_drewN ?_ _) | (with_reducible refine Kd.C_drew ?_)))
                (case aB => exact (by repeat (first | (with_reducible first | exact HB.out | apply below_alloc | apply pw_below_drewN | apply below_drew1 | refine below_set ?_ GE184.out) | exact HB.out)))
                (case aF => exact (fun _ _ => trivial))
                (case aO => exact (by (with_reducible repeat (first | apply Kd.R_alloc | apply Kd.R_drewN | apply Kd.R_drew)); exact HO188.out))
                (case aS => exact (below_size (by repeat (first | (with_reducible first | exact HB.out | apply below_alloc | apply pw_below_drewN | apply below_drew1 | refine below_set ?_ GE184.out) | exact HB.out))))
                (case aL => have := LMc8.out; omega)
                intro v190 w23 ho hb hg hat
                rw [← Ny189.out] at ho
                have n0_ := Aside0.mk (blk_grown (g := gb184) (o := .cells #[.int .i64 a1_0, .int .i64 a1_1, .int .i64 a1_2] 24 (0, 0)) (by (with_reducible repeat (first | refine blk_drewN ?_ _ | refine blk_drew ?_ | refine blk_alloc ?_ _)); exact BK184.out) hg (Kd.R_ne HO188.out BK184.out (by decide)))
                have n1_ := Aside0.mk (hb)
                have n2_ := Aside0.mk (ho)
                clear BK184
                clear HB
                clear HO188
                have BK184 := n0_
                have HB := n1_
                have HO191 := n2_
                clear n0_ n1_ n2_
                clear ho hb hg hat
                obtain ⟨Ao24, co24, eo24⟩ := Kd.R_slice HO191.out
                (first | subst eo24 | (injection eo24 with f1_ f2_ f3_; have f4_ := f1_.symm; have f5_ := f3_.symm; clear f1_ f2_ f3_; subst f4_; subst f5_))
                refine hK.out _ _ ⟨(blk_cell BK184.out 0).trans rfl, (blk_cell BK184.out 1).trans rfl, (blk_cell BK184.out 2).trans rfl⟩ (fun hHeld => ?_)
                clear hK K
                refine norm_ (a' := ?_) ?_ ?_
                rotate_left
                · show Act.put _ (some 23) _ = _
                  simp only [Act.put, List.setIfInBounds_toArray, List.set_cons_zero, List.set_cons_succ, i64_w, i32_w]
                  rfl
                refine one_ (i := 7) (N := some 28) #[true, true, true, true, true, true, true, true, false, false, false, false, false, false, false] rfl rfl (one_of HT_.out (by kernel_rfl)) (by decide) (fun K hK => ?_)
                refine goes_ Try.func12 (by kernel_rfl) rfl #[.slice Ao24 y189.length co24, .int .i64 a1_0, .int .i64 a1_1] (by rfl) rfl rfl (by (try simp only [List.map_toArray, List.map_cons, List.map_nil]); first | done | rfl | (simp only [List.length_drop, List.length_take]; rfl)) ?_
                with_reducible refine (breaker_Best.calls k _ _ y189 a1_0 a1_1 t192 t193 t194 _ ?side1 ?side2 A9.out).mono ?_
                (case side1 => repeat (first | exact (Kd.R_reads' HO191.out).2.2 | (with_reducible refine Kd.C_alloc ?_ _) | (with_reducible refine Kd.C_drewN ?_ _) | (with_reducible refine Kd.C_drew ?_)))
                (case side2 => exact (Kd.R_reads' HO191.out).2.1)
                rintro e w25 ⟨v195, rfl, ho0, hb⟩
                refine ⟨_, rfl, ?_⟩
                have n0_ := Aside0.mk (Kd.R_below (by (with_reducible repeat (first | apply Kd.R_alloc | apply Kd.R_drewN | apply Kd.R_drew)); exact HO191.out) hb)
                have n1_ := Aside0.mk (Kd.R_lower ho0 (below_size (by repeat (first | (with_reducible first | exact HB.out | apply below_alloc | apply pw_below_drewN | apply below_drew1 | refine below_set ?_ GE184.out) | exact HB.out))))
                have n2_ := Aside0.mk (blk_below (g := gb184) (o := .cells #[.int .i64 a1_0, .int .i64 a1_1, .int .i64 a1_2] 24 (0, 0)) (by (with_reducible repeat (first | refine blk_drewN ?_ _ | refine blk_drew ?_ | refine blk_alloc ?_ _)); exact BK184.out) hb)
                have n3_ := Aside0.mk (below_step (by repeat (first | (with_reducible first | exact HB.out | apply below_alloc | apply pw_below_drewN | apply below_drew1 | refine below_set ?_ GE184.out) | exact HB.out)) hb)
                clear HO191
                clear BK184
                clear HB
                have HO191 := n0_
                have HO196 := n1_
                have BK184 := n2_
                have HB := n3_
                clear n0_ n1_ n2_ n3_
                (try clear hb)
                (try clear hb2)
                (try clear hk)
                (try clear hi)
                (try clear ho0)
                refine hK.out _ _ ⟨(blk_cell BK184.out 0).trans rfl, (blk_cell BK184.out 1).trans rfl, (blk_cell BK184.out 2).trans rfl⟩ (fun hHeld => ?_)
                clear hK K
                refine norm_ (a' := ?_) ?_ ?_
                rotate_left
                · show Act.put _ (some 28) _ = _
                  simp only [Act.put, List.setIfInBounds_toArray, List.set_cons_zero, List.set_cons_succ, i64_w, i32_w]
                  rfl
                refine pure_ (i := 8) (N := some 20) (v := ?_) (a' := ?_) #[true, true, true, true, true, true, true, true, true, false, false, false, false, false, false] rfl rfl (any_of HT_.out (by kernel_rfl)) (fun _ _ _ h => h) (Or.inl ⟨by rfl, ?_⟩) ?_ ?_
                rotate_left
                · intro w'
                  go_simp
                  with_reducible rfl
                rotate_left
                · simp only [Act.put, List.setIfInBounds_toArray, List.set_cons_zero, List.set_cons_succ, i64_w, i32_w]
                  rfl
                refine pure_ (i := 9) (N := some 29) (v := ?_) (a' := ?_) #[true, true, true, true, true, true, true, true, true, true, false, false, false, false, false] rfl rfl (any_of HT_.out (by kernel_rfl)) (fun _ _ _ h => h) (Or.inl ⟨by rfl, ?_⟩) ?_ ?_
                rotate_left
                · intro w'
                  go_simp
                  with_reducible rfl
                rotate_left
                · simp only [Act.put, List.setIfInBounds_toArray, List.set_cons_zero, List.set_cons_succ, i64_w, i32_w]
                  rfl
                refine pure_ (i := 10) (N := some 30) (v := ?_) (a' := ?_) #[true, true, true, true, true, true, true, true, true, true, true, false, false, false, false] rfl rfl (any_of HT_.out (by kernel_rfl)) (fun _ _ _ h => h) (Or.inl ⟨by rfl, ?_⟩) ?_ ?_
                rotate_left
                · intro w'
                  go_simp
                  with_reducible rfl
                rotate_left
                · simp only [Act.put, List.setIfInBounds_toArray, List.set_cons_zero, List.set_cons_succ, i64_w, i32_w]
                  rfl
                refine pure_ (i := 11) (N := some 31) (v := ?_) (a' := ?_) #[true, true, true, true, true, true, true, true, true, true, true, true, false, false, false] rfl rfl (any_of HT_.out (by kernel_rfl)) (fun _ _ _ h => h) (Or.inl ⟨by rfl, ?_⟩) ?_ ?_
                rotate_left
                · intro w'
                  go_simp
                  with_reducible rfl
                rotate_left
                · simp only [Act.put, List.setIfInBounds_toArray, List.set_cons_zero, List.set_cons_succ, i64_w, i32_w]
                  rfl
                refine pure_ (i := 12) (N := some 5) (v := ?_) (a' := ?_) #[true, true, true, true, true, true, true, true, true, true, true, true, true, false, false] rfl rfl (any_of HT_.out (by kernel_rfl)) (fun _ _ _ h => h) (Or.inl ⟨by rfl, ?_⟩) ?_ ?_
                rotate_left
                · intro w'
                  go_simp
                  with_reducible rfl
                rotate_left
                · simp only [Act.put, List.setIfInBounds_toArray, List.set_cons_zero, List.set_cons_succ, i64_w, i32_w]
                  rfl
                refine pure_ (i := 13) (N := some 6) (v := ?_) (a' := ?_) #[true, true, true, true, true, true, true, true, true, true, true, true, true, true, false] rfl rfl (any_of HT_.out (by kernel_rfl)) (fun _ _ _ h => h) (Or.inl ⟨by rfl, ?_⟩) ?_ ?_
                rotate_left
                · intro w'
                  go_simp
                  with_reducible rfl
                rotate_left
                · simp only [Act.put, List.setIfInBounds_toArray, List.set_cons_zero, List.set_cons_succ, i64_w, i32_w]
                  rfl
                refine pure_ (i := 14) (N := some 7) (v := ?_) (a' := ?_) #[true, true, true, true, true, true, true, true, true, true, true, true, true, true, true] rfl rfl (any_of HT_.out (by kernel_rfl)) (fun _ _ _ h => h) (Or.inl ⟨by rfl, ?_⟩) ?_ ?_
                rotate_left
                · intro w'
                  go_simp
                  with_reducible rfl
                rotate_left
                · simp only [Act.put, List.setIfInBounds_toArray, List.set_cons_zero, List.set_cons_succ, i64_w, i32_w]
                  rfl
                refine done_ (done_of HT_.out (by kernel_rfl)) ?_
                have hcz26_0 : w25.cell? ⟨gb184, 0, none⟩ = some (.int .i64 a1_0) := (blk_cell BK184.out 0).trans rfl
                have hcz26_1 : w25.cell? ⟨gb184, 1, none⟩ = some (.int .i64 a1_1) := (blk_cell BK184.out 1).trans rfl
                have hcz26_2 : w25.cell? ⟨gb184, 2, none⟩ = some (.int .i64 a1_2) := (blk_cell BK184.out 2).trans rfl
                have hfz26_0 := blk_frozen BK184.out 0
                have hfz26_1 := blk_frozen BK184.out 1
                have hfz26_2 := blk_frozen BK184.out 2
                try go_wp2_with (first | ((with_reducible refine gate_callee (f := 16) rfl ?_); refine goesL_ (some 38) rfl rfl Try.func16 (by kernel_rfl) rfl #[.slice A0 l0.length c0, .int .i64 a1_0, .int .i64 a1_1] rfl (by (try simp only [List.map_toArray, List.map_cons, List.map_nil]); first | done | rfl | (simp only [List.length_drop, List.length_take]; rfl)) ?_; (with_reducible refine (vinculumref45_Best.calls k _ _ l0 a1_0 a1_1 t197 t198 t199 _ ?side1 ?side2 A10.out).mono ?_); (case side1 => repeat (first | exact (Kd.C_below HR0.out HB.out) | (with_reducible refine Kd.C_alloc ?_ _) | (with_reducible refine Kd.C_drewN ?_ _) | (with_reducible refine Kd.C_drew ?_))); (case side2 => exact HC0.out); rintro e w27 ⟨v200, rfl, ho0, hb⟩; refine ⟨_, rfl, ?_⟩; have n0_ := Aside0.mk (Kd.R_below (by (with_reducible repeat (first | apply Kd.R_alloc | apply Kd.R_drewN | apply Kd.R_drew)); exact HO191.out) hb); have n1_ := Aside0.mk (Kd.R_elder' (by (with_reducible repeat (first | apply Kd.R_alloc | apply Kd.R_drewN | apply Kd.R_drew)); exact HO196.out) (Kd.R_base ho0) hb); have n2_ := Aside0.mk (Kd.R_lower (Kd.R_new' ho0 (Kd.R_lt (by (with_reducible repeat (first | apply Kd.R_alloc | apply Kd.R_drewN | apply Kd.R_drew)); exact HO196.out))) (below_size (by repeat (first | (with_reducible first | exact HB.out | apply below_alloc | apply pw_below_drewN | apply below_drew1 | refine below_set ?_ GE184.out) | exact HB.out)))); have n3_ := Aside0.mk (blk_below (g := gb184) (o := .cells #[.int .i64 a1_0, .int .i64 a1_1, .int .i64 a1_2] 24 (0, 0)) (by (with_reducible repeat (first | refine blk_drewN ?_ _ | refine blk_drew ?_ | refine blk_alloc ?_ _)); exact BK184.out) hb); have n4_ := Aside0.mk (below_step (by repeat (first | (with_reducible first | exact HB.out | apply below_alloc | apply pw_below_drewN | apply below_drew1 | refine below_set ?_ GE184.out) | exact HB.out)) hb); clear HO191; clear HO196; clear BK184; clear HB; have HO191 := n0_; have HO196 := n1_; have HO201 := n2_; have BK184 := n3_; have HB := n4_; clear n0_ n1_ n2_ n3_ n4_; (try clear hb); (try clear hb2); (try clear hk); (try clear hi); (try clear ho0); have hcz28_0 : w27.cell? ⟨gb184, 0, none⟩ = some (.int .i64 a1_0) := (blk_cell BK184.out 0).trans rfl; have hcz28_1 : w27.cell? ⟨gb184, 1, none⟩ = some (.int .i64 a1_1) := (blk_cell BK184.out 1).trans rfl; have hcz28_2 : w27.cell? ⟨gb184, 2, none⟩ = some (.int .i64 a1_2) := (blk_cell BK184.out 2).trans rfl; have hfz28_0 := blk_frozen BK184.out 0; have hfz28_1 := blk_frozen BK184.out 1; have hfz28_2 := blk_frozen BK184.out 2) | ((with_reducible refine gate_callee (f := 17) rfl ?_); refine goesL_ (some 48) rfl rfl Try.func17 (by kernel_rfl) rfl #[.slice A0 l0.length c0, .int .i64 a1_0, .int .i64 a1_1] rfl (by (try simp only [List.map_toArray, List.map_cons, List.map_nil]); first | done | rfl | (simp only [List.length_drop, List.length_take]; rfl)) ?_; (with_reducible refine (breaker_Fewest.calls k _ _ l0 a1_0 a1_1 t202 t203 _ ?side1 ?side2 A11.out).mono ?_); (case side1 => repeat (first | exact (Kd.C_below HR0.out HB.out) | (with_reducible refine Kd.C_alloc ?_ _) | (with_reducible refine Kd.C_drewN ?_ _) | (with_reducible refine Kd.C_drew ?_))); (case side2 => exact HC0.out); rintro e w29 ⟨rfl, hb⟩; refine ⟨_, rfl, ?_⟩; have n0_ := Aside0.mk (Kd.R_below (by (with_reducible repeat (first | apply Kd.R_alloc | apply Kd.R_drewN | apply Kd.R_drew)); exact HO191.out) hb); have n1_ := Aside0.mk (Kd.R_below (by (with_reducible repeat (first | apply Kd.R_alloc | apply Kd.R_drewN | apply Kd.R_drew)); exact HO196.out) hb); have n2_ := Aside0.mk (Kd.R_below (by (with_reducible repeat (first | apply Kd.R_alloc | apply Kd.R_drewN | apply Kd.R_drew)); exact HO201.out) hb); have n3_ := Aside0.mk (blk_below (g := gb184) (o := .cells #[.int .i64 a1_0, .int .i64 a1_1, .int .i64 a1_2] 24 (0, 0)) (by (with_reducible repeat (first | refine blk_drewN ?_ _ | refine blk_drew ?_ | refine blk_alloc ?_ _)); exact BK184.out) hb); have n4_ := Aside0.mk (below_step (by repeat (first | (with_reducible first | exact HB.out | apply below_alloc | apply pw_below_drewN | apply below_drew1 | refine below_set ?_ GE184.out) | exact HB.out)) hb); clear HO191; clear HO196; clear HO201; clear BK184; clear HB; have HO191 := n0_; have HO196 := n1_; have HO201 := n2_; have BK184 := n3_; have HB := n4_; clear n0_ n1_ n2_ n3_ n4_; (try clear hb); (try clear hb2); (try clear hk); (try clear hi); have hcz30_0 : w29.cell? ⟨gb184, 0, none⟩ = some (.int .i64 a1_0) := (blk_cell BK184.out 0).trans rfl; have hcz30_1 : w29.cell? ⟨gb184, 1, none⟩ = some (.int .i64 a1_1) := (blk_cell BK184.out 1).trans rfl; have hcz30_2 : w29.cell? ⟨gb184, 2, none⟩ = some (.int .i64 a1_2) := (blk_cell BK184.out 2).trans rfl; have hfz30_0 := blk_frozen BK184.out 0; have hfz30_1 := blk_frozen BK184.out 1; have hfz30_2 := blk_frozen BK184.out 2) | ((with_reducible refine gate_callee (f := 18) rfl ?_); refine goesL_ (some 57) rfl rfl Try.func18 (by kernel_rfl) rfl #[.slice A0 l0.length c0, .int .i64 a1_0, .int .i64 a1_1] rfl (by (try simp only [List.map_toArray, List.map_cons, List.map_nil]); first | done | rfl | (simp only [List.length_drop, List.length_take]; rfl)) ?_; (with_reducible refine (vinculumref45_Fewest.calls k _ _ l0 a1_0 a1_1 t204 t205 _ ?side1 ?side2 A12.out).mono ?_); (case side1 => repeat (first | exact (Kd.C_below HR0.out HB.out) | (with_reducible refine Kd.C_alloc ?_ _) | (with_reducible refine Kd.C_drewN ?_ _) | (with_reducible refine Kd.C_drew ?_))); (case side2 => exact HC0.out); rintro e w31 ⟨rfl, hb⟩; refine ⟨_, rfl, ?_⟩; have n0_ := Aside0.mk (Kd.R_below (by (with_reducible repeat (first | apply Kd.R_alloc | apply Kd.R_drewN | apply Kd.R_drew)); exact HO191.out) hb); have n1_ := Aside0.mk (Kd.R_below (by (with_reducible repeat (first | apply Kd.R_alloc | apply Kd.R_drewN | apply Kd.R_drew)); exact HO196.out) hb); have n2_ := Aside0.mk (Kd.R_below (by (with_reducible repeat (first | apply Kd.R_alloc | apply Kd.R_drewN | apply Kd.R_drew)); exact HO201.out) hb); have n3_ := Aside0.mk (blk_below (g := gb184) (o := .cells #[.int .i64 a1_0, .int .i64 a1_1, .int .i64 a1_2] 24 (0, 0)) (by (with_reducible repeat (first | refine blk_drewN ?_ _ | refine blk_drew ?_ | refine blk_alloc ?_ _)); exact BK184.out) hb); have n4_ := Aside0.mk (below_step (by repeat (first | (with_reducible first | exact HB.out | apply below_alloc | apply pw_below_drewN | apply below_drew1 | refine below_set ?_ GE184.out) | exact HB.out)) hb); clear HO191; clear HO196; clear HO201; clear BK184; clear HB; have HO191 := n0_; have HO196 := n1_; have HO201 := n2_; have BK184 := n3_; have HB := n4_; clear n0_ n1_ n2_ n3_ n4_; (try clear hb); (try clear hb2); (try clear hk); (try clear hi); obtain ⟨Ao32, co32, eo32⟩ := Kd.R_slice HO196.out; subst eo32; obtain ⟨Ao33, co33, eo33⟩ := Kd.R_slice HO201.out; subst eo33) | ((with_reducible refine gate_callee (f := 15) rfl ?_); refine goesL_ (some 62) rfl rfl Try.func15 (by kernel_rfl) rfl #[.slice Ao32 t192.length co32, .slice Ao33 t197.length co33] rfl (by (try simp only [List.map_toArray, List.map_cons, List.map_nil]); first | done | rfl | (simp only [List.length_drop, List.length_take]; rfl)) ?_; (with_reducible refine (vinculumlaw45_same.calls k _ _ t192 _ _ t197 true _ ?side1 ?side2 ?side3 ?side4 A13.out).mono ?_); (case side1 => repeat (first | exact (Kd.R_reads' HO196.out).2.2 | (with_reducible refine Kd.C_alloc ?_ _) | (with_reducible refine Kd.C_drewN ?_ _) | (with_reducible refine Kd.C_drew ?_))); (case side2 => exact (Kd.R_reads' HO196.out).2.1); (case side3 => repeat (first | exact (Kd.R_reads' HO201.out).2.2 | (with_reducible refine Kd.C_alloc ?_ _) | (with_reducible refine Kd.C_drewN ?_ _) | (with_reducible refine Kd.C_drew ?_))); (case side4 => exact (Kd.R_reads' HO201.out).2.1); rintro e w' ⟨rfl, ⟨nd, rfl⟩⟩; refine ⟨_, rfl, ?_⟩))
                go_ret
                exact ⟨by first | rfl | (simp [errW_none, errW_some] <;> rfl) | (simp [*, errW_none, errW_some] <;> rfl), by repeat (first | (with_reducible first | exact HB.out | apply below_alloc | apply pw_below_drewN | apply below_drew1 | refine below_set ?_ GE184.out) | exact HB.out)⟩
              · rw [if_neg c17] at H
                exact absurd H (by simp)
            · rw [if_neg c16] at H
              exact absurd H (by simp)
          · rw [if_neg c15] at H
            exact absurd H (by simp)
        · replace c14 := Bool.eq_false_iff.mpr c14
          subst c14
          have H1 : (none) = some r := by rw [if_neg (show ¬ (false = true) by decide)] at H; exact H
          clear H
          have H := H1
          clear H1
          exact absurd H (by simp)
      · rw [if_neg c8] at H
        exact absurd H (by simp)
  · replace c4 := Bool.eq_false_iff.mpr c4
    subst c4
    have H1 : (none) = some r := by rw [if_neg (show ¬ (false = true) by decide)] at H; exact H
    clear H
    have H := H1
    clear H1
    exact absurd H (by simp)

/-! ### vinculumref45_Lines: function 20 -/
def vinculumref45_Lines.f (k : Nat) (l0 : List (S34)) (a1 : Int) (a2 : Int) (a3 : Int) : Option (List Int × Int × Int) := (vinculumref45_All.f k l0 a1 a2).bind fun bt207 => (if bt207.2 = 0 then (if a3 < 1 then (some (([] : List Int), 0, 8)) else (if a3 ≥ (bt207.1.length : Int) then (some (([] : List Int), 0, 8)) else (if 0 ≤ a3 then (if a3 < (bt207.1.length : Int) then (if ((rd_T61 bt207.1 a3).f2 = true) then (some ((rd_T61 bt207.1 a3).f0, (rd_T61 bt207.1 a3).f1, 0)) else (some (([] : List Int), 0, 8))) else (none)) else (none)))) else (some (([] : List Int), 0, bt207.2)))
theorem vinculumref45_Lines.mono : ∀ a0 a1 a2 a3 k, LeO (vinculumref45_Lines.f k a0 a1 a2 a3) (vinculumref45_Lines.f (k + 1) a0 a1 a2 a3) := by
  intro a0 a1 a2 a3 k
  unfold vinculumref45_Lines.f
  repeat' first
      | (with_reducible exact vinculumref45_All.mono _ _ _ _)
      | (with_reducible exact LeO.refl _)
      | (with_reducible exact LeO.none _)
      | (with_reducible refine LeO.ite ?_ ?_)
      | (with_reducible refine LeO.bind ?_ (fun _ => ?_))
      | exact vinculumref45_All.mono _ _ _ _
      | exact LeO.none _
      | refine LeO.ite ?_ ?_
      | refine LeO.bind ?_ (fun _ => ?_)
set_option maxHeartbeats 8000000 in
set_option maxRecDepth 100000 in
theorem vinculumref45_Lines.calls (k : Nat) (A0 : Option Addr) (c0 : Nat) (l0 : List (S34)) (a1 : Int) (a2 : Int) (a3 : Int) (r1 : List Int) (r2 : Int) (r3 : Int) (w : World) (hr0 : Kd.C k34 w A0 l0.length l0) (hc0 : l0.length ≤ c0) (h : vinculumref45_Lines.f k l0 a1 a2 a3 = some (r1, r2, r3)) :
    Calls Try.prog 20 #[.slice A0 l0.length c0, .int .i64 a1, .int .i64 a2, .int .i64 a3] w fun e w' => ∃ v0_ : Value, e = .returned (.tuple #[v0_, .int .i64 r2, .int .i64 r3]) ∧ Kd.R (Kd.int .i64) 3 w' w.heap.size (fun _ => True) v0_ r1 ∧ Below w.heap.size w w' := by
  have HR0 := Aside0.mk hr0
  have HC0 := Aside0.mk hc0
  clear hr0 hc0
  have HB := Aside0.mk (Below.refl w.heap.size w)
  have H : ((vinculumref45_All.f k l0 a1 a2).bind fun bt207 => (if bt207.2 = 0 then (if a3 < 1 then (some (([] : List Int), 0, 8)) else (if a3 ≥ (bt207.1.length : Int) then (some (([] : List Int), 0, 8)) else (if 0 ≤ a3 then (if a3 < (bt207.1.length : Int) then (if ((rd_T61 bt207.1 a3).f2 = true) then (some ((rd_T61 bt207.1 a3).f0, (rd_T61 bt207.1 a3).f1, 0)) else (some (([] : List Int), 0, 8))) else (none)) else (none)))) else (some (([] : List Int), 0, bt207.2)))) = some (r1, r2, r3) := h
  clear h
  replace H := Option.bind_eq_some_iff.mp H
  obtain ⟨⟨t207, t208⟩, A50, H⟩ := H
  replace H : (if t208 = 0 then (if a3 < 1 then (some (([] : List Int), 0, 8)) else (if a3 ≥ (t207.length : Int) then (some (([] : List Int), 0, 8)) else (if 0 ≤ a3 then (if a3 < (t207.length : Int) then (if ((rd_T61 t207 a3).f2 = true) then (some ((rd_T61 t207 a3).f0, (rd_T61 t207 a3).f1, 0)) else (some (([] : List Int), 0, 8))) else (none)) else (none)))) else (some (([] : List Int), 0, t208))) = some (r1, r2, r3) := H
  have A5 := Aside0.mk A50
  clear A50
  by_cases c6 : t208 = 0
  · rw [if_pos c6] at H
    have c6b0 : (t208 == 0) = true := beq_iff_eq.mpr c6
    have c6b1 : (t208 != 0) = false := bne_eq_false_iff_eq.mpr c6
    clear c6
    by_cases c7 : a3 < 1
    · rw [if_pos c7] at H
      have c7b0 : decide (a3 < 1) = true := decide_eq_true c7
      clear c7
      simp only [Option.some.injEq, Prod.mk.injEq] at H
      obtain ⟨rfl, rfl, rfl⟩ := H
      go_enter Try.func20, Try.ntmps20
      go_wp2_with (first | (go_at_call 31; (with_reducible refine (vinculumref45_All.calls k _ _ l0 a1 a2 t207 t208 _ ?side1 ?side2 A5.out).mono ?_); (case side1 => repeat (first | exact HR0.out | (with_reducible refine Kd.C_alloc ?_ _) | (with_reducible refine Kd.C_drewN ?_ _) | (with_reducible refine Kd.C_drew ?_))); (case side2 => exact HC0.out); rintro e w8 ⟨v209, rfl, ho0, hb⟩; have n0_ := Aside0.mk (Kd.S_lower ho0 (below_size (by repeat (first | (with_reducible first | exact HB.out | apply below_alloc | apply pw_below_drewN | apply below_drew1) | exact HB.out)))); have n1_ := Aside0.mk (below_step (by repeat (first | (with_reducible first | exact HB.out | apply below_alloc | apply pw_below_drewN | apply below_drew1) | exact HB.out)) hb); clear HB; have HO210 := n0_; have HB := n1_; clear n0_ n1_; (try clear hb); (try clear hb2); (try clear hk); (try clear hi); (try clear ho0)))
      repeat (go_quiet (first | (go_at_call 31; (with_reducible refine (vinculumref45_All.calls k _ _ l0 a1 a2 t207 t208 _ ?side1 ?side2 A5.out).mono ?_); (case side1 => repeat (first | exact HR0.out | (with_reducible refine Kd.C_alloc ?_ _) | (with_reducible refine Kd.C_drewN ?_ _) | (with_reducible refine Kd.C_drew ?_))); (case side2 => exact HC0.out); rintro e w8 ⟨v209, rfl, ho0, hb⟩; have n0_ := Aside0.mk (Kd.S_lower ho0 (below_size (by repeat (first | (with_reducible first | exact HB.out | apply below_alloc | apply pw_below_drewN | apply below_drew1) | exact HB.out)))); have n1_ := Aside0.mk (below_step (by repeat (first | (with_reducible first | exact HB.out | apply below_alloc | apply pw_below_drewN | apply below_drew1) | exact HB.out)) hb); clear HB; have HO210 := n0_; have HB := n1_; clear n0_ n1_; (try clear hb); (try clear hb2); (try clear hk); (try clear hi); (try clear ho0))); try go_wp2_with (first | (go_at_call 31; (with_reducible refine (vinculumref45_All.calls k _ _ l0 a1 a2 t207 t208 _ ?side1 ?side2 A5.out).mono ?_); (case side1 => repeat (first | exact HR0.out | (with_reducible refine Kd.C_alloc ?_ _) | (with_reducible refine Kd.C_drewN ?_ _) | (with_reducible refine Kd.C_drew ?_))); (case side2 => exact HC0.out); rintro e w8 ⟨v209, rfl, ho0, hb⟩; have n0_ := Aside0.mk (Kd.S_lower ho0 (below_size (by repeat (first | (with_reducible first | exact HB.out | apply below_alloc | apply pw_below_drewN | apply below_drew1) | exact HB.out)))); have n1_ := Aside0.mk (below_step (by repeat (first | (with_reducible first | exact HB.out | apply below_alloc | apply pw_below_drewN | apply below_drew1) | exact HB.out)) hb); clear HB; have HO210 := n0_; have HB := n1_; clear n0_ n1_; (try clear hb); (try clear hb2); (try clear hk); (try clear hi); (try clear ho0))))
      go_ret3
      exact ⟨_, by first | rfl | (simp [errW_none, errW_some] <;> rfl) | (simp [*, errW_none, errW_some] <;> rfl), by first | exact Kd.R_nil _ _ _ _ _ | exact Kd.N_nil _ _ _ _ _ | exact Kd.V_nil _ _ _ _ _ | exact Kd.Q_nil _ _ _ _ _ | exact Kd.S_nil _ _ _ _ _, by repeat (first | (with_reducible first | exact HB.out | apply below_alloc | apply pw_below_drewN | apply below_drew1) | exact HB.out)⟩
    · rw [if_neg c7] at H
      have c7b0 : decide (a3 < 1) = false := decide_eq_false c7
      clear c7
      by_cases c9 : a3 ≥ (t207.length : Int)
      · rw [if_pos c9] at H
        have c9b0 : decide ((t207.length : Int) ≤ a3) = true := decide_eq_true c9
        clear c9
        simp only [Option.some.injEq, Prod.mk.injEq] at H
        obtain ⟨rfl, rfl, rfl⟩ := H
        go_enter Try.func20, Try.ntmps20
        go_wp2_with (first | (go_at_call 31; (with_reducible refine (vinculumref45_All.calls k _ _ l0 a1 a2 t207 t208 _ ?side1 ?side2 A5.out).mono ?_); (case side1 => repeat (first | exact HR0.out | (with_reducible refine Kd.C_alloc ?_ _) | (with_reducible refine Kd.C_drewN ?_ _) | (with_reducible refine Kd.C_drew ?_))); (case side2 => exact HC0.out); rintro e w10 ⟨v209, rfl, ho0, hb⟩; have n0_ := Aside0.mk (Kd.S_lower ho0 (below_size (by repeat (first | (with_reducible first | exact HB.out | apply below_alloc | apply pw_below_drewN | apply below_drew1) | exact HB.out)))); have n1_ := Aside0.mk (below_step (by repeat (first | (with_reducible first | exact HB.out | apply below_alloc | apply pw_below_drewN | apply below_drew1) | exact HB.out)) hb); clear HB; have HO210 := n0_; have HB := n1_; clear n0_ n1_; (try clear hb); (try clear hb2); (try clear hk); (try clear hi); (try clear ho0); obtain ⟨Ao11, co11, eo11⟩ := Kd.S_slice HO210.out; subst eo11))
        repeat (go_quiet (first | (go_at_call 31; (with_reducible refine (vinculumref45_All.calls k _ _ l0 a1 a2 t207 t208 _ ?side1 ?side2 A5.out).mono ?_); (case side1 => repeat (first | exact HR0.out | (with_reducible refine Kd.C_alloc ?_ _) | (with_reducible refine Kd.C_drewN ?_ _) | (with_reducible refine Kd.C_drew ?_))); (case side2 => exact HC0.out); rintro e w10 ⟨v209, rfl, ho0, hb⟩; have n0_ := Aside0.mk (Kd.S_lower ho0 (below_size (by repeat (first | (with_reducible first | exact HB.out | apply below_alloc | apply pw_below_drewN | apply below_drew1) | exact HB.out)))); have n1_ := Aside0.mk (below_step (by repeat (first | (with_reducible first | exact HB.out | apply below_alloc | apply pw_below_drewN | apply below_drew1) | exact HB.out)) hb); clear HB; have HO210 := n0_; have HB := n1_; clear n0_ n1_; (try clear hb); (try clear hb2); (try clear hk); (try clear hi); (try clear ho0); obtain ⟨Ao11, co11, eo11⟩ := Kd.S_slice HO210.out; subst eo11)); try go_wp2_with (first | (go_at_call 31; (with_reducible refine (vinculumref45_All.calls k _ _ l0 a1 a2 t207 t208 _ ?side1 ?side2 A5.out).mono ?_); (case side1 => repeat (first | exact HR0.out | (with_reducible refine Kd.C_alloc ?_ _) | (with_reducible refine Kd.C_drewN ?_ _) | (with_reducible refine Kd.C_drew ?_))); (case side2 => exact HC0.out); rintro e w10 ⟨v209, rfl, ho0, hb⟩; have n0_ := Aside0.mk (Kd.S_lower ho0 (below_size (by repeat (first | (with_reducible first | exact HB.out | apply below_alloc | apply pw_below_drewN | apply below_drew1) | exact HB.out)))); have n1_ := Aside0.mk (below_step (by repeat (first | (with_reducible first | exact HB.out | apply below_alloc | apply pw_below_drewN | apply below_drew1) | exact HB.out)) hb); clear HB; have HO210 := n0_; have HB := n1_; clear n0_ n1_; (try clear hb); (try clear hb2); (try clear hk); (try clear hi); (try clear ho0); obtain ⟨Ao11, co11, eo11⟩ := Kd.S_slice HO210.out; subst eo11)))
        go_ret3
        exact ⟨_, by first | rfl | (simp [errW_none, errW_some] <;> rfl) | (simp [*, errW_none, errW_some] <;> rfl), by first | exact Kd.R_nil _ _ _ _ _ | exact Kd.N_nil _ _ _ _ _ | exact Kd.V_nil _ _ _ _ _ | exact Kd.Q_nil _ _ _ _ _ | exact Kd.S_nil _ _ _ _ _, by repeat (first | (with_reducible first | exact HB.out | apply below_alloc | apply pw_below_drewN | apply below_drew1) | exact HB.out)⟩
      · rw [if_neg c9] at H
        have c9b0 : decide ((t207.length : Int) ≤ a3) = false := decide_eq_false c9
        clear c9
        by_cases c12 : 0 ≤ a3
        · rw [if_pos c12] at H
          have c12b0 : decide (0 ≤ a3) = true := decide_eq_true c12
          clear c12
          by_cases c13 : a3 < (t207.length : Int)
          · rw [if_pos c13] at H
            have c13b0 : decide (a3 < (t207.length : Int)) = true := decide_eq_true c13
            clear c13
            obtain ⟨bq14, hbq14⟩ : ∃ b_ : Bool, b_ = ((rd_T61 t207 a3).f2) := ⟨_, rfl⟩
            replace H : (if (bq14 = true) then (some ((rd_T61 t207 a3).f0, (rd_T61 t207 a3).f1, 0)) else (some (([] : List Int), 0, 8))) = some (r1, r2, r3) := by rw [← hbq14] at H; exact H
            have Nbq14 := Aside0.mk hbq14
            clear hbq14
            by_cases c15 : (bq14 = true)
            · subst c15
              have H1 : (some ((rd_T61 t207 a3).f0, (rd_T61 t207 a3).f1, 0)) = some (r1, r2, r3) := by rw [if_pos rfl] at H; exact H
              clear H
              have H := H1
              clear H1
              simp only [Option.some.injEq, Prod.mk.injEq] at H
              obtain ⟨rfl, rfl, rfl⟩ := H
              go_enter Try.func20, Try.ntmps20
              go_wp2_with (first | (go_at_call 31; (with_reducible refine (vinculumref45_All.calls k _ _ l0 a1 a2 t207 t208 _ ?side1 ?side2 A5.out).mono ?_); (case side1 => repeat (first | exact HR0.out | (with_reducible refine Kd.C_alloc ?_ _) | (with_reducible refine Kd.C_drewN ?_ _) | (with_reducible refine Kd.C_drew ?_))); (case side2 => exact HC0.out); rintro e w16 ⟨v209, rfl, ho0, hb⟩; have n0_ := Aside0.mk (Kd.S_lower ho0 (below_size (by repeat (first | (with_reducible first | exact HB.out | apply below_alloc | apply pw_below_drewN | apply below_drew1) | exact HB.out)))); have n1_ := Aside0.mk (below_step (by repeat (first | (with_reducible first | exact HB.out | apply below_alloc | apply pw_below_drewN | apply below_drew1) | exact HB.out)) hb); clear HB; have HO210 := n0_; have HB := n1_; clear n0_ n1_; (try clear hb); (try clear hb2); (try clear hk); (try clear hi); (try clear ho0); obtain ⟨Ao17, co17, eo17⟩ := Kd.S_slice HO210.out; subst eo17; have p211 : 0 ≤ (a3 : Int) := of_decide_eq_true (by first | (with_reducible assumption) | assumption); have q211 : a3 < (t207.length : Int) := of_decide_eq_true (by first | (with_reducible assumption) | assumption); obtain ⟨ad211, A211_0, c211_0, e211, hx211_0, hx211_1, hx211_2, hl211_0, hi211_0⟩ := at_T61 (Kd.S_reads' HO210.out).2.2 a3 p211 q211; (try rw [← Nbq14.out] at hx211_2); cases e211; obtain ⟨ce211, hce211, hMe211, hcc211⟩ := Kd.S_get HO210.out z61 a3 p211 (by first | exact q211 | exact of_decide_eq_true (by first | (with_reducible assumption) | assumption) | (have e_ := (Kd.S_reads' HO210.out).1; omega)); obtain ⟨ve211_0, rfl, ge211_0⟩ := k61_openM hMe211; have hv211_0 := hcc211 0 _ rfl; rw [Nat.add_zero] at hv211_0; replace hv211_0 := Option.some.inj (hv211_0.symm.trans hx211_0); rw [hv211_0] at ge211_0; have HL211_0 := Aside0.mk (show Kd.R (Kd.int .i64) 3 _ _ _ _ ((rd_T61 t207 a3).f0) from ge211_0); clear hv211_0 ge211_0; clear hcc211 hce211; have HR211_0 := Aside0.mk hi211_0; have HC211_0 := Aside0.mk hl211_0; clear hi211_0 hl211_0; replace p211 := eq_true p211; replace q211 := eq_true q211; have p212 : 0 ≤ (a3 : Int) := of_decide_eq_true (by first | (with_reducible assumption) | assumption); have q212 : a3 < (t207.length : Int) := of_decide_eq_true (by first | (with_reducible assumption) | assumption); obtain ⟨ad212, A212_0, c212_0, e212, hx212_0, hx212_1, hx212_2, hl212_0, hi212_0⟩ := at_T61 (Kd.S_reads' HO210.out).2.2 a3 p212 q212; (try rw [← Nbq14.out] at hx212_2); obtain rfl : ad211 = ad212 := (by injection e212); obtain ⟨ce212, hce212, hMe212, hcc212⟩ := Kd.S_get HO210.out z61 a3 p212 (by first | exact q212 | exact of_decide_eq_true (by first | (with_reducible assumption) | assumption) | (have e_ := (Kd.S_reads' HO210.out).1; omega)); obtain ⟨ve212_0, rfl, ge212_0⟩ := k61_openM hMe212; have hv212_0 := hcc212 0 _ rfl; rw [Nat.add_zero] at hv212_0; replace hv212_0 := Option.some.inj (hv212_0.symm.trans hx212_0); rw [hv212_0] at ge212_0; have HL212_0 := Aside0.mk (show Kd.R (Kd.int .i64) 3 _ _ _ _ ((rd_T61 t207 a3).f0) from ge212_0); clear hv212_0 ge212_0; clear hcc212 hce212; have HR212_0 := Aside0.mk hi212_0; have HC212_0 := Aside0.mk hl212_0; clear hi212_0 hl212_0; replace p212 := eq_true p212; replace q212 := eq_true q212; have ea_ := Option.some.inj (hx211_0.symm.trans hx212_0); injection ea_ with ea_ en_ ec_; subst ea_; subst ec_; clear en_; have p213 : 0 ≤ (a3 : Int) := of_decide_eq_true (by first | (with_reducible assumption) | assumption); have q213 : a3 < (t207.length : Int) := of_decide_eq_true (by first | (with_reducible assumption) | assumption); obtain ⟨ad213, A213_0, c213_0, e213, hx213_0, hx213_1, hx213_2, hl213_0, hi213_0⟩ := at_T61 (Kd.S_reads' HO210.out).2.2 a3 p213 q213; (try rw [← Nbq14.out] at hx213_2); obtain rfl : ad211 = ad213 := (by injection e213); obtain ⟨ce213, hce213, hMe213, hcc213⟩ := Kd.S_get HO210.out z61 a3 p213 (by first | exact q213 | exact of_decide_eq_true (by first | (with_reducible assumption) | assumption) | (have e_ := (Kd.S_reads' HO210.out).1; omega)); obtain ⟨ve213_0, rfl, ge213_0⟩ := k61_openM hMe213; have hv213_0 := hcc213 0 _ rfl; rw [Nat.add_zero] at hv213_0; replace hv213_0 := Option.some.inj (hv213_0.symm.trans hx213_0); rw [hv213_0] at ge213_0; have HL213_0 := Aside0.mk (show Kd.R (Kd.int .i64) 3 _ _ _ _ ((rd_T61 t207 a3).f0) from ge213_0); clear hv213_0 ge213_0; clear hcc213 hce213; have HR213_0 := Aside0.mk hi213_0; have HC213_0 := Aside0.mk hl213_0; clear hi213_0 hl213_0; replace p213 := eq_true p213; replace q213 := eq_true q213; have ea_ := Option.some.inj (hx211_0.symm.trans hx213_0); injection ea_ with ea_ en_ ec_; subst ea_; subst ec_; clear en_))
              repeat (go_quiet (first | (go_at_call 31; (with_reducible refine (vinculumref45_All.calls k _ _ l0 a1 a2 t207 t208 _ ?side1 ?side2 A5.out).mono ?_); (case side1 => repeat (first | exact HR0.out | (with_reducible refine Kd.C_alloc ?_ _) | (with_reducible refine Kd.C_drewN ?_ _) | (with_reducible refine Kd.C_drew ?_))); (case side2 => exact HC0.out); rintro e w16 ⟨v209, rfl, ho0, hb⟩; have n0_ := Aside0.mk (Kd.S_lower ho0 (below_size (by repeat (first | (with_reducible first | exact HB.out | apply below_alloc | apply pw_below_drewN | apply below_drew1) | exact HB.out)))); have n1_ := Aside0.mk (below_step (by repeat (first | (with_reducible first | exact HB.out | apply below_alloc | apply pw_below_drewN | apply below_drew1) | exact HB.out)) hb); clear HB; have HO210 := n0_; have HB := n1_; clear n0_ n1_; (try clear hb); (try clear hb2); (try clear hk); (try clear hi); (try clear ho0); obtain ⟨Ao17, co17, eo17⟩ := Kd.S_slice HO210.out; subst eo17; have p211 : 0 ≤ (a3 : Int) := of_decide_eq_true (by first | (with_reducible assumption) | assumption); have q211 : a3 < (t207.length : Int) := of_decide_eq_true (by first | (with_reducible assumption) | assumption); obtain ⟨ad211, A211_0, c211_0, e211, hx211_0, hx211_1, hx211_2, hl211_0, hi211_0⟩ := at_T61 (Kd.S_reads' HO210.out).2.2 a3 p211 q211; (try rw [← Nbq14.out] at hx211_2); cases e211; obtain ⟨ce211, hce211, hMe211, hcc211⟩ := Kd.S_get HO210.out z61 a3 p211 (by first | exact q211 | exact of_decide_eq_true (by first | (with_reducible assumption) | assumption) | (have e_ := (Kd.S_reads' HO210.out).1; omega)); obtain ⟨ve211_0, rfl, ge211_0⟩ := k61_openM hMe211; have hv211_0 := hcc211 0 _ rfl; rw [Nat.add_zero] at hv211_0; replace hv211_0 := Option.some.inj (hv211_0.symm.trans hx211_0); rw [hv211_0] at ge211_0; have HL211_0 := Aside0.mk (show Kd.R (Kd.int .i64) 3 _ _ _ _ ((rd_T61 t207 a3).f0) from ge211_0); clear hv211_0 ge211_0; clear hcc211 hce211; have HR211_0 := Aside0.mk hi211_0; have HC211_0 := Aside0.mk hl211_0; clear hi211_0 hl211_0; replace p211 := eq_true p211; replace q211 := eq_true q211; have p212 : 0 ≤ (a3 : Int) := of_decide_eq_true (by first | (with_reducible assumption) | assumption); have q212 : a3 < (t207.length : Int) := of_decide_eq_true (by first | (with_reducible assumption) | assumption); obtain ⟨ad212, A212_0, c212_0, e212, hx212_0, hx212_1, hx212_2, hl212_0, hi212_0⟩ := at_T61 (Kd.S_reads' HO210.out).2.2 a3 p212 q212; (try rw [← Nbq14.out] at hx212_2); obtain rfl : ad211 = ad212 := (by injection e212); obtain ⟨ce212, hce212, hMe212, hcc212⟩ := Kd.S_get HO210.out z61 a3 p212 (by first | exact q212 | exact of_decide_eq_true (by first | (with_reducible assumption) | assumption) | (have e_ := (Kd.S_reads' HO210.out).1; omega)); obtain ⟨ve212_0, rfl, ge212_0⟩ := k61_openM hMe212; have hv212_0 := hcc212 0 _ rfl; rw [Nat.add_zero] at hv212_0; replace hv212_0 := Option.some.inj (hv212_0.symm.trans hx212_0); rw [hv212_0] at ge212_0; have HL212_0 := Aside0.mk (show Kd.R (Kd.int .i64) 3 _ _ _ _ ((rd_T61 t207 a3).f0) from ge212_0); clear hv212_0 ge212_0; clear hcc212 hce212; have HR212_0 := Aside0.mk hi212_0; have HC212_0 := Aside0.mk hl212_0; clear hi212_0 hl212_0; replace p212 := eq_true p212; replace q212 := eq_true q212; have ea_ := Option.some.inj (hx211_0.symm.trans hx212_0); injection ea_ with ea_ en_ ec_; subst ea_; subst ec_; clear en_; have p213 : 0 ≤ (a3 : Int) := of_decide_eq_true (by first | (with_reducible assumption) | assumption); have q213 : a3 < (t207.length : Int) := of_decide_eq_true (by first | (with_reducible assumption) | assumption); obtain ⟨ad213, A213_0, c213_0, e213, hx213_0, hx213_1, hx213_2, hl213_0, hi213_0⟩ := at_T61 (Kd.S_reads' HO210.out).2.2 a3 p213 q213; (try rw [← Nbq14.out] at hx213_2); obtain rfl : ad211 = ad213 := (by injection e213); obtain ⟨ce213, hce213, hMe213, hcc213⟩ := Kd.S_get HO210.out z61 a3 p213 (by first | exact q213 | exact of_decide_eq_true (by first | (with_reducible assumption) | assumption) | (have e_ := (Kd.S_reads' HO210.out).1; omega)); obtain ⟨ve213_0, rfl, ge213_0⟩ := k61_openM hMe213; have hv213_0 := hcc213 0 _ rfl; rw [Nat.add_zero] at hv213_0; replace hv213_0 := Option.some.inj (hv213_0.symm.trans hx213_0); rw [hv213_0] at ge213_0; have HL213_0 := Aside0.mk (show Kd.R (Kd.int .i64) 3 _ _ _ _ ((rd_T61 t207 a3).f0) from ge213_0); clear hv213_0 ge213_0; clear hcc213 hce213; have HR213_0 := Aside0.mk hi213_0; have HC213_0 := Aside0.mk hl213_0; clear hi213_0 hl213_0; replace p213 := eq_true p213; replace q213 := eq_true q213; have ea_ := Option.some.inj (hx211_0.symm.trans hx213_0); injection ea_ with ea_ en_ ec_; subst ea_; subst ec_; clear en_)); try go_wp2_with (first | (go_at_call 31; (with_reducible refine (vinculumref45_All.calls k _ _ l0 a1 a2 t207 t208 _ ?side1 ?side2 A5.out).mono ?_); (case side1 => repeat (first | exact HR0.out | (with_reducible refine Kd.C_alloc ?_ _) | (with_reducible refine Kd.C_drewN ?_ _) | (with_reducible refine Kd.C_drew ?_))); (case side2 => exact HC0.out); rintro e w16 ⟨v209, rfl, ho0, hb⟩; have n0_ := Aside0.mk (Kd.S_lower ho0 (below_size (by repeat (first | (with_reducible first | exact HB.out | apply below_alloc | apply pw_below_drewN | apply below_drew1) | exact HB.out)))); have n1_ := Aside0.mk (below_step (by repeat (first | (with_reducible first | exact HB.out | apply below_alloc | apply pw_below_drewN | apply below_drew1) | exact HB.out)) hb); clear HB; have HO210 := n0_; have HB := n1_; clear n0_ n1_; (try clear hb); (try clear hb2); (try clear hk); (try clear hi); (try clear ho0); obtain ⟨Ao17, co17, eo17⟩ := Kd.S_slice HO210.out; subst eo17; have p211 : 0 ≤ (a3 : Int) := of_decide_eq_true (by first | (with_reducible assumption) | assumption); have q211 : a3 < (t207.length : Int) := of_decide_eq_true (by first | (with_reducible assumption) | assumption); obtain ⟨ad211, A211_0, c211_0, e211, hx211_0, hx211_1, hx211_2, hl211_0, hi211_0⟩ := at_T61 (Kd.S_reads' HO210.out).2.2 a3 p211 q211; (try rw [← Nbq14.out] at hx211_2); cases e211; obtain ⟨ce211, hce211, hMe211, hcc211⟩ := Kd.S_get HO210.out z61 a3 p211 (by first | exact q211 | exact of_decide_eq_true (by first | (with_reducible assumption) | assumption) | (have e_ := (Kd.S_reads' HO210.out).1; omega)); obtain ⟨ve211_0, rfl, ge211_0⟩ := k61_openM hMe211; have hv211_0 := hcc211 0 _ rfl; rw [Nat.add_zero] at hv211_0; replace hv211_0 := Option.some.inj (hv211_0.symm.trans hx211_0); rw [hv211_0] at ge211_0; have HL211_0 := Aside0.mk (show Kd.R (Kd.int .i64) 3 _ _ _ _ ((rd_T61 t207 a3).f0) from ge211_0); clear hv211_0 ge211_0; clear hcc211 hce211; have HR211_0 := Aside0.mk hi211_0; have HC211_0 := Aside0.mk hl211_0; clear hi211_0 hl211_0; replace p211 := eq_true p211; replace q211 := eq_true q211; have p212 : 0 ≤ (a3 : Int) := of_decide_eq_true (by first | (with_reducible assumption) | assumption); have q212 : a3 < (t207.length : Int) := of_decide_eq_true (by first | (with_reducible assumption) | assumption); obtain ⟨ad212, A212_0, c212_0, e212, hx212_0, hx212_1, hx212_2, hl212_0, hi212_0⟩ := at_T61 (Kd.S_reads' HO210.out).2.2 a3 p212 q212; (try rw [← Nbq14.out] at hx212_2); obtain rfl : ad211 = ad212 := (by injection e212); obtain ⟨ce212, hce212, hMe212, hcc212⟩ := Kd.S_get HO210.out z61 a3 p212 (by first | exact q212 | exact of_decide_eq_true (by first | (with_reducible assumption) | assumption) | (have e_ := (Kd.S_reads' HO210.out).1; omega)); obtain ⟨ve212_0, rfl, ge212_0⟩ := k61_openM hMe212; have hv212_0 := hcc212 0 _ rfl; rw [Nat.add_zero] at hv212_0; replace hv212_0 := Option.some.inj (hv212_0.symm.trans hx212_0); rw [hv212_0] at ge212_0; have HL212_0 := Aside0.mk (show Kd.R (Kd.int .i64) 3 _ _ _ _ ((rd_T61 t207 a3).f0) from ge212_0); clear hv212_0 ge212_0; clear hcc212 hce212; have HR212_0 := Aside0.mk hi212_0; have HC212_0 := Aside0.mk hl212_0; clear hi212_0 hl212_0; replace p212 := eq_true p212; replace q212 := eq_true q212; have ea_ := Option.some.inj (hx211_0.symm.trans hx212_0); injection ea_ with ea_ en_ ec_; subst ea_; subst ec_; clear en_; have p213 : 0 ≤ (a3 : Int) := of_decide_eq_true (by first | (with_reducible assumption) | assumption); have q213 : a3 < (t207.length : Int) := of_decide_eq_true (by first | (with_reducible assumption) | assumption); obtain ⟨ad213, A213_0, c213_0, e213, hx213_0, hx213_1, hx213_2, hl213_0, hi213_0⟩ := at_T61 (Kd.S_reads' HO210.out).2.2 a3 p213 q213; (try rw [← Nbq14.out] at hx213_2); obtain rfl : ad211 = ad213 := (by injection e213); obtain ⟨ce213, hce213, hMe213, hcc213⟩ := Kd.S_get HO210.out z61 a3 p213 (by first | exact q213 | exact of_decide_eq_true (by first | (with_reducible assumption) | assumption) | (have e_ := (Kd.S_reads' HO210.out).1; omega)); obtain ⟨ve213_0, rfl, ge213_0⟩ := k61_openM hMe213; have hv213_0 := hcc213 0 _ rfl; rw [Nat.add_zero] at hv213_0; replace hv213_0 := Option.some.inj (hv213_0.symm.trans hx213_0); rw [hv213_0] at ge213_0; have HL213_0 := Aside0.mk (show Kd.R (Kd.int .i64) 3 _ _ _ _ ((rd_T61 t207 a3).f0) from ge213_0); clear hv213_0 ge213_0; clear hcc213 hce213; have HR213_0 := Aside0.mk hi213_0; have HC213_0 := Aside0.mk hl213_0; clear hi213_0 hl213_0; replace p213 := eq_true p213; replace q213 := eq_true q213; have ea_ := Option.some.inj (hx211_0.symm.trans hx213_0); injection ea_ with ea_ en_ ec_; subst ea_; subst ec_; clear en_)))
              go_ret3
              exact ⟨_, by first | rfl | (simp [errW_none, errW_some] <;> rfl) | (simp [*, errW_none, errW_some] <;> rfl), by (with_reducible repeat (first | apply Kd.R_alloc | apply Kd.R_drewN | apply Kd.R_drew)); exact Kd.R_mono HL212_0.out (fun _ hk => trivial), by repeat (first | (with_reducible first | exact HB.out | apply below_alloc | apply pw_below_drewN | apply below_drew1) | exact HB.out)⟩
            · replace c15 := Bool.eq_false_iff.mpr c15
              subst c15
              have H1 : (some (([] : List Int), 0, 8)) = some (r1, r2, r3) := by rw [if_neg (show ¬ (false = true) by decide)] at H; exact H
              clear H
              have H := H1
              clear H1
              simp only [Option.some.injEq, Prod.mk.injEq] at H
              obtain ⟨rfl, rfl, rfl⟩ := H
              go_enter Try.func20, Try.ntmps20
              go_wp2_with (first | (go_at_call 31; (with_reducible refine (vinculumref45_All.calls k _ _ l0 a1 a2 t207 t208 _ ?side1 ?side2 A5.out).mono ?_); (case side1 => repeat (first | exact HR0.out | (with_reducible refine Kd.C_alloc ?_ _) | (with_reducible refine Kd.C_drewN ?_ _) | (with_reducible refine Kd.C_drew ?_))); (case side2 => exact HC0.out); rintro e w18 ⟨v209, rfl, ho0, hb⟩; have n0_ := Aside0.mk (Kd.S_lower ho0 (below_size (by repeat (first | (with_reducible first | exact HB.out | apply below_alloc | apply pw_below_drewN | apply below_drew1) | exact HB.out)))); have n1_ := Aside0.mk (below_step (by repeat (first | (with_reducible first | exact HB.out | apply below_alloc | apply pw_below_drewN | apply below_drew1) | exact HB.out)) hb); clear HB; have HO210 := n0_; have HB := n1_; clear n0_ n1_; (try clear hb); (try clear hb2); (try clear hk); (try clear hi); (try clear ho0); obtain ⟨Ao19, co19, eo19⟩ := Kd.S_slice HO210.out; subst eo19; have p211 : 0 ≤ (a3 : Int) := of_decide_eq_true (by first | (with_reducible assumption) | assumption); have q211 : a3 < (t207.length : Int) := of_decide_eq_true (by first | (with_reducible assumption) | assumption); obtain ⟨ad211, A211_0, c211_0, e211, hx211_0, hx211_1, hx211_2, hl211_0, hi211_0⟩ := at_T61 (Kd.S_reads' HO210.out).2.2 a3 p211 q211; (try rw [← Nbq14.out] at hx211_2); cases e211; obtain ⟨ce211, hce211, hMe211, hcc211⟩ := Kd.S_get HO210.out z61 a3 p211 (by first | exact q211 | exact of_decide_eq_true (by first | (with_reducible assumption) | assumption) | (have e_ := (Kd.S_reads' HO210.out).1; omega)); obtain ⟨ve211_0, rfl, ge211_0⟩ := k61_openM hMe211; have hv211_0 := hcc211 0 _ rfl; rw [Nat.add_zero] at hv211_0; replace hv211_0 := Option.some.inj (hv211_0.symm.trans hx211_0); rw [hv211_0] at ge211_0; have HL211_0 := Aside0.mk (show Kd.R (Kd.int .i64) 3 _ _ _ _ ((rd_T61 t207 a3).f0) from ge211_0); clear hv211_0 ge211_0; clear hcc211 hce211; have HR211_0 := Aside0.mk hi211_0; have HC211_0 := Aside0.mk hl211_0; clear hi211_0 hl211_0; replace p211 := eq_true p211; replace q211 := eq_true q211))
              repeat (go_quiet (first | (go_at_call 31; (with_reducible refine (vinculumref45_All.calls k _ _ l0 a1 a2 t207 t208 _ ?side1 ?side2 A5.out).mono ?_); (case side1 => repeat (first | exact HR0.out | (with_reducible refine Kd.C_alloc ?_ _) | (with_reducible refine Kd.C_drewN ?_ _) | (with_reducible refine Kd.C_drew ?_))); (case side2 => exact HC0.out); rintro e w18 ⟨v209, rfl, ho0, hb⟩; have n0_ := Aside0.mk (Kd.S_lower ho0 (below_size (by repeat (first | (with_reducible first | exact HB.out | apply below_alloc | apply pw_below_drewN | apply below_drew1) | exact HB.out)))); have n1_ := Aside0.mk (below_step (by repeat (first | (with_reducible first | exact HB.out | apply below_alloc | apply pw_below_drewN | apply below_drew1) | exact HB.out)) hb); clear HB; have HO210 := n0_; have HB := n1_; clear n0_ n1_; (try clear hb); (try clear hb2); (try clear hk); (try clear hi); (try clear ho0); obtain ⟨Ao19, co19, eo19⟩ := Kd.S_slice HO210.out; subst eo19; have p211 : 0 ≤ (a3 : Int) := of_decide_eq_true (by first | (with_reducible assumption) | assumption); have q211 : a3 < (t207.length : Int) := of_decide_eq_true (by first | (with_reducible assumption) | assumption); obtain ⟨ad211, A211_0, c211_0, e211, hx211_0, hx211_1, hx211_2, hl211_0, hi211_0⟩ := at_T61 (Kd.S_reads' HO210.out).2.2 a3 p211 q211; (try rw [← Nbq14.out] at hx211_2); cases e211; obtain ⟨ce211, hce211, hMe211, hcc211⟩ := Kd.S_get HO210.out z61 a3 p211 (by first | exact q211 | exact of_decide_eq_true (by first | (with_reducible assumption) | assumption) | (have e_ := (Kd.S_reads' HO210.out).1; omega)); obtain ⟨ve211_0, rfl, ge211_0⟩ := k61_openM hMe211; have hv211_0 := hcc211 0 _ rfl; rw [Nat.add_zero] at hv211_0; replace hv211_0 := Option.some.inj (hv211_0.symm.trans hx211_0); rw [hv211_0] at ge211_0; have HL211_0 := Aside0.mk (show Kd.R (Kd.int .i64) 3 _ _ _ _ ((rd_T61 t207 a3).f0) from ge211_0); clear hv211_0 ge211_0; clear hcc211 hce211; have HR211_0 := Aside0.mk hi211_0; have HC211_0 := Aside0.mk hl211_0; clear hi211_0 hl211_0; replace p211 := eq_true p211; replace q211 := eq_true q211)); try go_wp2_with (first | (go_at_call 31; (with_reducible refine (vinculumref45_All.calls k _ _ l0 a1 a2 t207 t208 _ ?side1 ?side2 A5.out).mono ?_); (case side1 => repeat (first | exact HR0.out | (with_reducible refine Kd.C_alloc ?_ _) | (with_reducible refine Kd.C_drewN ?_ _) | (with_reducible refine Kd.C_drew ?_))); (case side2 => exact HC0.out); rintro e w18 ⟨v209, rfl, ho0, hb⟩; have n0_ := Aside0.mk (Kd.S_lower ho0 (below_size (by repeat (first | (with_reducible first | exact HB.out | apply below_alloc | apply pw_below_drewN | apply below_drew1) | exact HB.out)))); have n1_ := Aside0.mk (below_step (by repeat (first | (with_reducible first | exact HB.out | apply below_alloc | apply pw_below_drewN | apply below_drew1) | exact HB.out)) hb); clear HB; have HO210 := n0_; have HB := n1_; clear n0_ n1_; (try clear hb); (try clear hb2); (try clear hk); (try clear hi); (try clear ho0); obtain ⟨Ao19, co19, eo19⟩ := Kd.S_slice HO210.out; subst eo19; have p211 : 0 ≤ (a3 : Int) := of_decide_eq_true (by first | (with_reducible assumption) | assumption); have q211 : a3 < (t207.length : Int) := of_decide_eq_true (by first | (with_reducible assumption) | assumption); obtain ⟨ad211, A211_0, c211_0, e211, hx211_0, hx211_1, hx211_2, hl211_0, hi211_0⟩ := at_T61 (Kd.S_reads' HO210.out).2.2 a3 p211 q211; (try rw [← Nbq14.out] at hx211_2); cases e211; obtain ⟨ce211, hce211, hMe211, hcc211⟩ := Kd.S_get HO210.out z61 a3 p211 (by first | exact q211 | exact of_decide_eq_true (by first | (with_reducible assumption) | assumption) | (have e_ := (Kd.S_reads' HO210.out).1; omega)); obtain ⟨ve211_0, rfl, ge211_0⟩ := k61_openM hMe211; have hv211_0 := hcc211 0 _ rfl; rw [Nat.add_zero] at hv211_0; replace hv211_0 := Option.some.inj (hv211_0.symm.trans hx211_0); rw [hv211_0] at ge211_0; have HL211_0 := Aside0.mk (show Kd.R (Kd.int .i64) 3 _ _ _ _ ((rd_T61 t207 a3).f0) from ge211_0); clear hv211_0 ge211_0; clear hcc211 hce211; have HR211_0 := Aside0.mk hi211_0; have HC211_0 := Aside0.mk hl211_0; clear hi211_0 hl211_0; replace p211 := eq_true p211; replace q211 := eq_true q211)))
              go_ret3
              exact ⟨_, by first | rfl | (simp [errW_none, errW_some] <;> rfl) | (simp [*, errW_none, errW_some] <;> rfl), by first | exact Kd.R_nil _ _ _ _ _ | exact Kd.N_nil _ _ _ _ _ | exact Kd.V_nil _ _ _ _ _ | exact Kd.Q_nil _ _ _ _ _ | exact Kd.S_nil _ _ _ _ _, by repeat (first | (with_reducible first | exact HB.out | apply below_alloc | apply pw_below_drewN | apply below_drew1) | exact HB.out)⟩
          · rw [if_neg c13] at H
            exact absurd H (by simp)
        · rw [if_neg c12] at H
          exact absurd H (by simp)
  · rw [if_neg c6] at H
    have c6b0 : (t208 == 0) = false := beq_eq_false_iff_ne.mpr c6
    have c6b1 : (t208 != 0) = true := bne_iff_ne.mpr c6
    simp only [Option.some.injEq, Prod.mk.injEq] at H
    obtain ⟨rfl, rfl, rfl⟩ := H
    go_enter Try.func20, Try.ntmps20
    go_wp2_with (first | (go_at_call 31; (with_reducible refine (vinculumref45_All.calls k _ _ l0 a1 a2 t207 t208 _ ?side1 ?side2 A5.out).mono ?_); (case side1 => repeat (first | exact HR0.out | (with_reducible refine Kd.C_alloc ?_ _) | (with_reducible refine Kd.C_drewN ?_ _) | (with_reducible refine Kd.C_drew ?_))); (case side2 => exact HC0.out); rintro e w20 ⟨v209, rfl, ho0, hb⟩; have n0_ := Aside0.mk (Kd.S_lower ho0 (below_size (by repeat (first | (with_reducible first | exact HB.out | apply below_alloc | apply pw_below_drewN | apply below_drew1) | exact HB.out)))); have n1_ := Aside0.mk (below_step (by repeat (first | (with_reducible first | exact HB.out | apply below_alloc | apply pw_below_drewN | apply below_drew1) | exact HB.out)) hb); clear HB; have HO210 := n0_; have HB := n1_; clear n0_ n1_; (try clear hb); (try clear hb2); (try clear hk); (try clear hi); (try clear ho0)))
    repeat (go_quiet (first | (go_at_call 31; (with_reducible refine (vinculumref45_All.calls k _ _ l0 a1 a2 t207 t208 _ ?side1 ?side2 A5.out).mono ?_); (case side1 => repeat (first | exact HR0.out | (with_reducible refine Kd.C_alloc ?_ _) | (with_reducible refine Kd.C_drewN ?_ _) | (with_reducible refine Kd.C_drew ?_))); (case side2 => exact HC0.out); rintro e w20 ⟨v209, rfl, ho0, hb⟩; have n0_ := Aside0.mk (Kd.S_lower ho0 (below_size (by repeat (first | (with_reducible first | exact HB.out | apply below_alloc | apply pw_below_drewN | apply below_drew1) | exact HB.out)))); have n1_ := Aside0.mk (below_step (by repeat (first | (with_reducible first | exact HB.out | apply below_alloc | apply pw_below_drewN | apply below_drew1) | exact HB.out)) hb); clear HB; have HO210 := n0_; have HB := n1_; clear n0_ n1_; (try clear hb); (try clear hb2); (try clear hk); (try clear hi); (try clear ho0))); try go_wp2_with (first | (go_at_call 31; (with_reducible refine (vinculumref45_All.calls k _ _ l0 a1 a2 t207 t208 _ ?side1 ?side2 A5.out).mono ?_); (case side1 => repeat (first | exact HR0.out | (with_reducible refine Kd.C_alloc ?_ _) | (with_reducible refine Kd.C_drewN ?_ _) | (with_reducible refine Kd.C_drew ?_))); (case side2 => exact HC0.out); rintro e w20 ⟨v209, rfl, ho0, hb⟩; have n0_ := Aside0.mk (Kd.S_lower ho0 (below_size (by repeat (first | (with_reducible first | exact HB.out | apply below_alloc | apply pw_below_drewN | apply below_drew1) | exact HB.out)))); have n1_ := Aside0.mk (below_step (by repeat (first | (with_reducible first | exact HB.out | apply below_alloc | apply pw_below_drewN | apply below_drew1) | exact HB.out)) hb); clear HB; have HO210 := n0_; have HB := n1_; clear n0_ n1_; (try clear hb); (try clear hb2); (try clear hk); (try clear hi); (try clear ho0))))
    go_ret3
    exact ⟨_, by first | rfl | (simp [errW_none, errW_some] <;> rfl) | (simp [*, errW_none, errW_some] <;> rfl), by first | exact Kd.R_nil _ _ _ _ _ | exact Kd.N_nil _ _ _ _ _ | exact Kd.V_nil _ _ _ _ _ | exact Kd.Q_nil _ _ _ _ _ | exact Kd.S_nil _ _ _ _ _, by repeat (first | (with_reducible first | exact HB.out | apply below_alloc | apply pw_below_drewN | apply below_drew1) | exact HB.out)⟩

/-! ### vinculumlaw45_BreakerLines: function 6 -/
def vinculumlaw45_BreakerLines.f (k : Nat) (l0 : List (S34)) (a1_0 : Int) (a1_1 : Int) (a1_2 : Int) : Option (Bool) := (vinculumlaw45_awake.f k).bind fun t215 => (if t215 = true then (if (l0.length : Int) > 10 then (some true) else ((breaker_Lines.f k l0 a1_0 a1_1 a1_2).bind fun bt216 => ((vinculumref45_Lines.f k l0 a1_0 a1_1 a1_2).bind fun bt221 => ((vinculumlaw45_same.f k bt216.1 bt221.1).bind fun t226 => (if t226 = true then (if bt216.2.1 = bt221.2.1 then (some (bt216.2.2 == bt221.2.2)) else (none)) else (none)))))) else (none))
theorem vinculumlaw45_BreakerLines.mono : ∀ a0 a1 a2 a3 k, LeO (vinculumlaw45_BreakerLines.f k a0 a1 a2 a3) (vinculumlaw45_BreakerLines.f (k + 1) a0 a1 a2 a3) := by
  intro a0 a1 a2 a3 k
  unfold vinculumlaw45_BreakerLines.f
  repeat' first
      | (with_reducible exact breaker_Lines.mono _ _ _ _ _)
      | (with_reducible exact vinculumlaw45_awake.mono _)
      | (with_reducible exact vinculumlaw45_same.mono _ _ _)
      | (with_reducible exact vinculumref45_Lines.mono _ _ _ _ _)
      | (with_reducible exact LeO.refl _)
      | (with_reducible exact LeO.none _)
      | (with_reducible refine LeO.ite ?_ ?_)
      | (with_reducible refine LeO.bind ?_ (fun _ => ?_))
      | exact breaker_Lines.mono _ _ _ _ _
      | exact vinculumlaw45_awake.mono _
      | exact vinculumlaw45_same.mono _ _ _
      | exact vinculumref45_Lines.mono _ _ _ _ _
      | exact LeO.none _
      | refine LeO.ite ?_ ?_
      | refine LeO.bind ?_ (fun _ => ?_)
set_option maxHeartbeats 8000000 in
set_option maxRecDepth 100000 in
theorem vinculumlaw45_BreakerLines.calls (k : Nat) (A0 : Option Addr) (c0 : Nat) (l0 : List (S34)) (a1_0 : Int) (a1_1 : Int) (a1_2 : Int) (r : Bool) (w : World) (hr0 : Kd.C k34 w A0 l0.length l0) (hc0 : l0.length ≤ c0) (h : vinculumlaw45_BreakerLines.f k l0 a1_0 a1_1 a1_2 = some r) :
    Calls Try.prog 6 #[.slice A0 l0.length c0, .agg #[.int .i64 a1_0, .int .i64 a1_1, .int .i64 a1_2]] w fun e w' => e = .returned (.bool r) ∧ Below w.heap.size w w' := by
  have hu24 := Try.underlying24
  have HR0 := Aside0.mk hr0
  have HC0 := Aside0.mk hc0
  clear hr0 hc0
  have HB := Aside0.mk (Below.refl w.heap.size w)
  have H : ((vinculumlaw45_awake.f k).bind fun t215 => (if t215 = true then (if (l0.length : Int) > 10 then (some true) else ((breaker_Lines.f k l0 a1_0 a1_1 a1_2).bind fun bt216 => ((vinculumref45_Lines.f k l0 a1_0 a1_1 a1_2).bind fun bt221 => ((vinculumlaw45_same.f k bt216.1 bt221.1).bind fun t226 => (if t226 = true then (if bt216.2.1 = bt221.2.1 then (some (bt216.2.2 == bt221.2.2)) else (none)) else (none)))))) else (none))) = some r := h
  clear h
  replace H := Option.bind_eq_some_iff.mp H
  obtain ⟨t215, A30, H⟩ := H
  replace H : (if t215 = true then (if (l0.length : Int) > 10 then (some true) else ((breaker_Lines.f k l0 a1_0 a1_1 a1_2).bind fun bt216 => ((vinculumref45_Lines.f k l0 a1_0 a1_1 a1_2).bind fun bt221 => ((vinculumlaw45_same.f k bt216.1 bt221.1).bind fun t226 => (if t226 = true then (if bt216.2.1 = bt221.2.1 then (some (bt216.2.2 == bt221.2.2)) else (none)) else (none)))))) else (none)) = some r := H
  have A3 := Aside0.mk A30
  clear A30
  by_cases c4 : t215 = true
  · subst c4
    have H1 : (if (l0.length : Int) > 10 then (some true) else ((breaker_Lines.f k l0 a1_0 a1_1 a1_2).bind fun bt216 => ((vinculumref45_Lines.f k l0 a1_0 a1_1 a1_2).bind fun bt221 => ((vinculumlaw45_same.f k bt216.1 bt221.1).bind fun t226 => (if t226 = true then (if bt216.2.1 = bt221.2.1 then (some (bt216.2.2 == bt221.2.2)) else (none)) else (none)))))) = some r := by rw [if_pos rfl] at H; exact H
    clear H
    have H := H1
    clear H1
    by_cases c5 : (l0.length : Int) > 10
    · rw [if_pos c5] at H
      have c5b0 : decide (10 < (l0.length : Int)) = true := decide_eq_true c5
      have c5b1 : decide (10 < l0.length) = true := decide_eq_true (by omega)
      clear c5
      obtain rfl := Option.some.inj H
      go_enter Try.func6, Try.ntmps6
      go_wp2_with (first | ((with_reducible refine gate_dst (N := 3) rfl ?_); refine box_event ?hg (N := 3) ?hd (cs := #[.int .i64 a1_0, .int .i64 a1_1, .int .i64 a1_2]) (t := 24) ?hr ?_; (case hd => rfl); (case hg => rfl); (case hr => first | (go_simp; done) | (go_simp; rfl)); intro gb214 hg w6 hbox hb; have n0_ := Aside0.mk (below_step (by repeat (first | (with_reducible first | exact HB.out | apply below_alloc | apply pw_below_drewN | apply below_drew1) | exact HB.out)) hb); have n1_ := Aside0.mk (hbox); have n2_ := Aside0.mk ((by rw [hg]; exact (below_size (by repeat (first | (with_reducible first | exact HB.out | apply below_alloc | apply pw_below_drewN | apply below_drew1) | exact HB.out))) : w.heap.size ≤ gb214)); have n3_ := Aside0.mk ((by rw [hg]; exact (below_size (by repeat (first | (with_reducible first | exact HB.out | apply below_alloc | apply pw_below_drewN | apply below_drew1) | exact HB.out))) : w.heap.size ≤ gb214)); clear HB; have HB := n0_; have BK214 := n1_; have GW214 := n2_; have GE214 := n3_; clear n0_ n1_ n2_ n3_; clear hb hbox hg) | ((with_reducible refine gate_callee (f := 10) rfl ?_); refine goesL_ (some 11) rfl rfl Try.func10 (by kernel_rfl) rfl #[] rfl (by (try simp only [List.map_toArray, List.map_cons, List.map_nil]); first | done | rfl | (simp only [List.length_drop, List.length_take]; rfl)) ?_; (with_reducible refine (vinculumlaw45_awake.calls k  true _ A3.out).mono ?_); rintro e w7 ⟨rfl, hb⟩; refine ⟨_, rfl, ?_⟩; have n0_ := Aside0.mk (blk_below (g := gb214) (o := .cells #[.int .i64 a1_0, .int .i64 a1_1, .int .i64 a1_2] 24 (0, 0)) (by (with_reducible repeat (first | refine blk_drewN ?_ _ | refine blk_drew ?_ | refine blk_alloc ?_ _)); exact BK214.out) hb); have n1_ := Aside0.mk (below_step (by repeat (first | (with_reducible first | exact HB.out | apply below_alloc | apply pw_below_drewN | apply below_drew1 | refine below_set ?_ GE214.out) | exact HB.out)) hb); clear BK214; clear HB; have BK214 := n0_; have HB := n1_; clear n0_ n1_; (try clear hb); (try clear hb2); (try clear hk); (try clear hi)))
      go_ret
      exact ⟨by first | rfl | (simp [errW_none, errW_some] <;> rfl) | (simp [*, errW_none, errW_some] <;> rfl), by repeat (first | (with_reducible first | exact HB.out | apply below_alloc | apply pw_below_drewN | apply below_drew1 | refine below_set ?_ GE214.out) | exact HB.out)⟩
    · rw [if_neg c5] at H
      have c5b0 : decide (10 < (l0.length : Int)) = false := decide_eq_false c5
      have c5b1 : decide (10 < l0.length) = false := decide_eq_false (by omega)
      clear c5
      replace H := Option.bind_eq_some_iff.mp H
      obtain ⟨⟨t216, t217, t218⟩, A80, H⟩ := H
      replace H : ((vinculumref45_Lines.f k l0 a1_0 a1_1 a1_2).bind fun bt221 => ((vinculumlaw45_same.f k t216 bt221.1).bind fun t226 => (if t226 = true then (if t217 = bt221.2.1 then (some (t218 == bt221.2.2)) else (none)) else (none)))) = some r := H
      have A8 := Aside0.mk A80
      clear A80
      replace H := Option.bind_eq_some_iff.mp H
      obtain ⟨⟨t221, t222, t223⟩, A90, H⟩ := H
      replace H : ((vinculumlaw45_same.f k t216 t221).bind fun t226 => (if t226 = true then (if t217 = t222 then (some (t218 == t223)) else (none)) else (none))) = some r := H
      have A9 := Aside0.mk A90
      clear A90
      replace H := Option.bind_eq_some_iff.mp H
      obtain ⟨t226, A100, H⟩ := H
      replace H : (if t226 = true then (if t217 = t222 then (some (t218 == t223)) else (none)) else (none)) = some r := H
      have A10 := Aside0.mk A100
      clear A100
      by_cases c11 : t226 = true
      · subst c11
        have H1 : (if t217 = t222 then (some (t218 == t223)) else (none)) = some r := by rw [if_pos rfl] at H; exact H
        clear H
        have H := H1
        clear H1
        by_cases c12 : t217 = t222
        · rw [if_pos c12] at H
          have c12b0 : (t217 == t222) = true := beq_iff_eq.mpr c12
          have c12b1 : (t217 != t222) = false := bne_eq_false_iff_eq.mpr c12
          clear c12
          obtain rfl := Option.some.inj H
          go_enter Try.func6, Try.ntmps6
          go_wp2_with (first | ((with_reducible refine gate_dst (N := 3) rfl ?_); refine box_event ?hg (N := 3) ?hd (cs := #[.int .i64 a1_0, .int .i64 a1_1, .int .i64 a1_2]) (t := 24) ?hr ?_; (case hd => rfl); (case hg => rfl); (case hr => first | (go_simp; done) | (go_simp; rfl)); intro gb214 hg w13 hbox hb; have n0_ := Aside0.mk (below_step (by repeat (first | (with_reducible first | exact HB.out | apply below_alloc | apply pw_below_drewN | apply below_drew1) | exact HB.out)) hb); have n1_ := Aside0.mk (hbox); have n2_ := Aside0.mk ((by rw [hg]; exact (below_size (by repeat (first | (with_reducible first | exact HB.out | apply below_alloc | apply pw_below_drewN | apply below_drew1) | exact HB.out))) : w.heap.size ≤ gb214)); have n3_ := Aside0.mk ((by rw [hg]; exact (below_size (by repeat (first | (with_reducible first | exact HB.out | apply below_alloc | apply pw_below_drewN | apply below_drew1) | exact HB.out))) : w.heap.size ≤ gb214)); clear HB; have HB := n0_; have BK214 := n1_; have GW214 := n2_; have GE214 := n3_; clear n0_ n1_ n2_ n3_; clear hb hbox hg) | ((with_reducible refine gate_callee (f := 10) rfl ?_); refine goesL_ (some 11) rfl rfl Try.func10 (by kernel_rfl) rfl #[] rfl (by (try simp only [List.map_toArray, List.map_cons, List.map_nil]); first | done | rfl | (simp only [List.length_drop, List.length_take]; rfl)) ?_; (with_reducible refine (vinculumlaw45_awake.calls k  true _ A3.out).mono ?_); rintro e w14 ⟨rfl, hb⟩; refine ⟨_, rfl, ?_⟩; have n0_ := Aside0.mk (blk_below (g := gb214) (o := .cells #[.int .i64 a1_0, .int .i64 a1_1, .int .i64 a1_2] 24 (0, 0)) (by (with_reducible repeat (first | refine blk_drewN ?_ _ | refine blk_drew ?_ | refine blk_alloc ?_ _)); exact BK214.out) hb); have n1_ := Aside0.mk (below_step (by repeat (first | (with_reducible first | exact HB.out | apply below_alloc | apply pw_below_drewN | apply below_drew1 | refine below_set ?_ GE214.out) | exact HB.out)) hb); clear BK214; clear HB; have BK214 := n0_; have HB := n1_; clear n0_ n1_; (try clear hb); (try clear hb2); (try clear hk); (try clear hi); have hcz15_0 : w14.cell? ⟨gb214, 0, none⟩ = some (.int .i64 a1_0) := (blk_cell BK214.out 0).trans rfl; have hcz15_1 : w14.cell? ⟨gb214, 1, none⟩ = some (.int .i64 a1_1) := (blk_cell BK214.out 1).trans rfl; have hcz15_2 : w14.cell? ⟨gb214, 2, none⟩ = some (.int .i64 a1_2) := (blk_cell BK214.out 2).trans rfl; have hfz15_0 := blk_frozen BK214.out 0; have hfz15_1 := blk_frozen BK214.out 1; have hfz15_2 := blk_frozen BK214.out 2) | ((with_reducible refine gate_callee (f := 19) rfl ?_); refine goesL_ (some 24) rfl rfl Try.func19 (by kernel_rfl) rfl #[.slice A0 l0.length c0, .int .i64 a1_0, .int .i64 a1_1, .int .i64 a1_2] rfl (by (try simp only [List.map_toArray, List.map_cons, List.map_nil]); first | done | rfl | (simp only [List.length_drop, List.length_take]; rfl)) ?_; (with_reducible refine (breaker_Lines.calls k _ _ l0 a1_0 a1_1 a1_2 t216 t217 t218 _ ?side1 ?side2 A8.out).mono ?_); (case side1 => repeat (first | exact (Kd.C_below HR0.out HB.out) | (with_reducible refine Kd.C_alloc ?_ _) | (with_reducible refine Kd.C_drewN ?_ _) | (with_reducible refine Kd.C_drew ?_))); (case side2 => exact HC0.out); rintro e w16 ⟨v219, rfl, ho0, hb⟩; refine ⟨_, rfl, ?_⟩; have n0_ := Aside0.mk (Kd.R_lower ho0 (below_size (by repeat (first | (with_reducible first | exact HB.out | apply below_alloc | apply pw_below_drewN | apply below_drew1 | refine below_set ?_ GE214.out) | exact HB.out)))); have n1_ := Aside0.mk (blk_below (g := gb214) (o := .cells #[.int .i64 a1_0, .int .i64 a1_1, .int .i64 a1_2] 24 (0, 0)) (by (with_reducible repeat (first | refine blk_drewN ?_ _ | refine blk_drew ?_ | refine blk_alloc ?_ _)); exact BK214.out) hb); have n2_ := Aside0.mk (below_step (by repeat (first | (with_reducible first | exact HB.out | apply below_alloc | apply pw_below_drewN | apply below_drew1 | refine below_set ?_ GE214.out) | exact HB.out)) hb); clear BK214; clear HB; have HO220 := n0_; have BK214 := n1_; have HB := n2_; clear n0_ n1_ n2_; (try clear hb); (try clear hb2); (try clear hk); (try clear hi); (try clear ho0); have hcz17_0 : w16.cell? ⟨gb214, 0, none⟩ = some (.int .i64 a1_0) := (blk_cell BK214.out 0).trans rfl; have hcz17_1 : w16.cell? ⟨gb214, 1, none⟩ = some (.int .i64 a1_1) := (blk_cell BK214.out 1).trans rfl; have hcz17_2 : w16.cell? ⟨gb214, 2, none⟩ = some (.int .i64 a1_2) := (blk_cell BK214.out 2).trans rfl; have hfz17_0 := blk_frozen BK214.out 0; have hfz17_1 := blk_frozen BK214.out 1; have hfz17_2 := blk_frozen BK214.out 2) | ((with_reducible refine gate_callee (f := 20) rfl ?_); refine goesL_ (some 36) rfl rfl Try.func20 (by kernel_rfl) rfl #[.slice A0 l0.length c0, .int .i64 a1_0, .int .i64 a1_1, .int .i64 a1_2] rfl (by (try simp only [List.map_toArray, List.map_cons, List.map_nil]); first | done | rfl | (simp only [List.length_drop, List.length_take]; rfl)) ?_; (with_reducible refine (vinculumref45_Lines.calls k _ _ l0 a1_0 a1_1 a1_2 t221 t222 t223 _ ?side1 ?side2 A9.out).mono ?_); (case side1 => repeat (first | exact (Kd.C_below HR0.out HB.out) | (with_reducible refine Kd.C_alloc ?_ _) | (with_reducible refine Kd.C_drewN ?_ _) | (with_reducible refine Kd.C_drew ?_))); (case side2 => exact HC0.out); rintro e w18 ⟨v224, rfl, ho0, hb⟩; refine ⟨_, rfl, ?_⟩; have n0_ := Aside0.mk (Kd.R_elder' (by (with_reducible repeat (first | apply Kd.R_alloc | apply Kd.R_drewN | apply Kd.R_drew)); exact HO220.out) (Kd.R_base ho0) hb); have n1_ := Aside0.mk (Kd.R_lower (Kd.R_new' ho0 (Kd.R_lt (by (with_reducible repeat (first | apply Kd.R_alloc | apply Kd.R_drewN | apply Kd.R_drew)); exact HO220.out))) (below_size (by repeat (first | (with_reducible first | exact HB.out | apply below_alloc | apply pw_below_drewN | apply below_drew1 | refine below_set ?_ GE214.out) | exact HB.out)))); have n2_ := Aside0.mk (blk_below (g := gb214) (o := .cells #[.int .i64 a1_0, .int .i64 a1_1, .int .i64 a1_2] 24 (0, 0)) (by (with_reducible repeat (first | refine blk_drewN ?_ _ | refine blk_drew ?_ | refine blk_alloc ?_ _)); exact BK214.out) hb); have n3_ := Aside0.mk (below_step (by repeat (first | (with_reducible first | exact HB.out | apply below_alloc | apply pw_below_drewN | apply below_drew1 | refine below_set ?_ GE214.out) | exact HB.out)) hb); clear HO220; clear BK214; clear HB; have HO220 := n0_; have HO225 := n1_; have BK214 := n2_; have HB := n3_; clear n0_ n1_ n2_ n3_; (try clear hb); (try clear hb2); (try clear hk); (try clear hi); (try clear ho0); obtain ⟨Ao19, co19, eo19⟩ := Kd.R_slice HO220.out; subst eo19; obtain ⟨Ao20, co20, eo20⟩ := Kd.R_slice HO225.out; subst eo20) | ((with_reducible refine gate_callee (f := 15) rfl ?_); refine goesL_ (some 42) rfl rfl Try.func15 (by kernel_rfl) rfl #[.slice Ao19 t216.length co19, .slice Ao20 t221.length co20] rfl (by (try simp only [List.map_toArray, List.map_cons, List.map_nil]); first | done | rfl | (simp only [List.length_drop, List.length_take]; rfl)) ?_; (with_reducible refine (vinculumlaw45_same.calls k _ _ t216 _ _ t221 true _ ?side1 ?side2 ?side3 ?side4 A10.out).mono ?_); (case side1 => repeat (first | exact (Kd.R_reads' HO220.out).2.2 | (with_reducible refine Kd.C_alloc ?_ _) | (with_reducible refine Kd.C_drewN ?_ _) | (with_reducible refine Kd.C_drew ?_))); (case side2 => exact (Kd.R_reads' HO220.out).2.1); (case side3 => repeat (first | exact (Kd.R_reads' HO225.out).2.2 | (with_reducible refine Kd.C_alloc ?_ _) | (with_reducible refine Kd.C_drewN ?_ _) | (with_reducible refine Kd.C_drew ?_))); (case side4 => exact (Kd.R_reads' HO225.out).2.1); rintro e w' ⟨rfl, ⟨nd, rfl⟩⟩; refine ⟨_, rfl, ?_⟩))
          go_ret
          exact ⟨by first | rfl | (simp [errW_none, errW_some] <;> rfl) | (simp [*, errW_none, errW_some] <;> rfl), by repeat (first | (with_reducible first | exact HB.out | apply below_alloc | apply pw_below_drewN | apply below_drew1 | refine below_set ?_ GE214.out) | exact HB.out)⟩
        · rw [if_neg c12] at H
          exact absurd H (by simp)
      · replace c11 := Bool.eq_false_iff.mpr c11
        subst c11
        have H1 : (none) = some r := by rw [if_neg (show ¬ (false = true) by decide)] at H; exact H
        clear H
        have H := H1
        clear H1
        exact absurd H (by simp)
  · replace c4 := Bool.eq_false_iff.mpr c4
    subst c4
    have H1 : (none) = some r := by rw [if_neg (show ¬ (false = true) by decide)] at H; exact H
    clear H
    have H := H1
    clear H1
    exact absurd H (by simp)

end Go.Proofs.Ytgickognjlapmaa.PR
