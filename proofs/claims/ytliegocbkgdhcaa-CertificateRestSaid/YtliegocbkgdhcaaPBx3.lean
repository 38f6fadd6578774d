-- Written by a program of this place (wip/gen.py) with the kit's print; not trusted: Lean checks it.
import Derived.Test.YtliegocbkgdhcaaPBx0
import Derived.Test.YtliegocbkgdhcaaPBx1
import Derived.Test.YtliegocbkgdhcaaPBx2
namespace Go.Proofs.Ytliegocbkgdhcaa.PB
open Go.RowKit Go.Proofs.YtliegocbkgdhcaaW.PrintWords Go.Proofs.YtliegocbkgdhcaaW.PrintLast Go.Proofs.YtliegocbkgdhcaaW.PrintMore
attribute [local go_sem] max2_int min2_int max_two min_two max_three min_three max_four min_four   -- for this text's walks alone
set_option linter.unusedVariables false
set_option linter.unusedSimpArgs false

/-! ### vinculumref46_Same: function 13 -/
def vinculumref46_Same.l0 : Nat → List Int → List Int → Int → Option (Bool)
  | 0, _, _, _ => none
  | k + 1, x0, x1, x5 => if x5 < (x0.length : Int) then (if 0 ≤ x5 then (if x5 < (x1.length : Int) then (if (rd x0 x5) = (rd x1 x5) then (vinculumref46_Same.l0 k x0 x1 (wrap64 (x5 + 1))) else (some false)) else (none)) else (none)) else (some true)
def vinculumref46_Same.f (k : Nat) (l0 : List Int) (l1 : List Int) : Option (Bool) := if (l0.length : Int) = (l1.length : Int) then (vinculumref46_Same.l0 k l0 l1 0) else (some false)
theorem vinculumref46_Same.mono_l : ∀ k, (∀ y0 y1 y2, LeO (vinculumref46_Same.l0 k y0 y1 y2) (vinculumref46_Same.l0 (k + 1) y0 y1 y2))
  | 0 => fun _ _ _ r h => by simp [vinculumref46_Same.l0] at h
  | k + 1 => by
    have ih0 := vinculumref46_Same.mono_l k
    · intro y0 y1 y2
      unfold vinculumref46_Same.l0
      repeat' first
      | (with_reducible exact ih0 _ _ _)
      | (with_reducible exact LeO.refl _)
      | (with_reducible exact LeO.none _)
      | (with_reducible refine LeO.ite ?_ ?_)
      | (with_reducible refine LeO.bind ?_ (fun _ => ?_))
      | exact ih0 _ _ _
      | exact LeO.none _
      | refine LeO.ite ?_ ?_
      | refine LeO.bind ?_ (fun _ => ?_)
theorem vinculumref46_Same.mono : ∀ a0 a1 k, LeO (vinculumref46_Same.f k a0 a1) (vinculumref46_Same.f (k + 1) a0 a1) := by
  intro a0 a1 k
  have ih0 := vinculumref46_Same.mono_l k
  unfold vinculumref46_Same.f
  repeat' first
      | (with_reducible exact ih0 _ _ _)
      | (with_reducible exact LeO.refl _)
      | (with_reducible exact LeO.none _)
      | (with_reducible refine LeO.ite ?_ ?_)
      | (with_reducible refine LeO.bind ?_ (fun _ => ?_))
      | exact ih0 _ _ _
      | exact LeO.none _
      | refine LeO.ite ?_ ?_
      | refine LeO.bind ?_ (fun _ => ?_)
set_option maxHeartbeats 8000000 in
set_option maxRecDepth 100000 in
theorem vinculumref46_Same.calls (k : Nat) (A0 : Option Addr) (c0 : Nat) (l0 : List Int) (A1 : Option Addr) (c1 : Nat) (l1 : List Int) (r : Bool) (w : World) (hr0 : Kd.C (Kd.int .i64) w A0 l0.length l0) (hc0 : l0.length ≤ c0) (hr1 : Kd.C (Kd.int .i64) w A1 l1.length l1) (hc1 : l1.length ≤ c1) (h : vinculumref46_Same.f k l0 l1 = some r) :
    Calls Try.prog 13 #[.slice A0 l0.length c0, .slice A1 l1.length c1] w fun e w' => e = .returned (.bool r) ∧ Drawn0 w w' := by
  have HR0 := Aside0.mk hr0
  have HC0 := Aside0.mk hc0
  clear hr0 hc0
  have HR1 := Aside0.mk hr1
  have HC1 := Aside0.mk hc1
  clear hr1 hc1
  have H : (if (l0.length : Int) = (l1.length : Int) then (vinculumref46_Same.l0 k l0 l1 0) else (some false)) = some r := h
  clear h
  by_cases c3 : (l0.length : Int) = (l1.length : Int)
  · rw [if_pos c3] at H
    have c3b0 : ((l0.length : Int) == (l1.length : Int)) = true := beq_iff_eq.mpr c3
    have c3b1 : ((l0.length : Int) != (l1.length : Int)) = false := bne_eq_false_iff_eq.mpr c3
    have c3b2 : (l0.length == l1.length) = true := by first | simpa using c3 | (simp at c3 ⊢; omega)
    clear c3
    have H' := Aside0.mk H
    clear H
    go_enter Try.func13, Try.ntmps13
    go_wp2
    repeat (go_quiet (fail); try go_wp2)
    go_loopg [5] k (fun kq v5 w' => ∃ (x5_1 : Int), v5 = .int .i64 x5_1 ∧ Aside0 (vinculumref46_Same.l0 kq l0 l1 x5_1 = some r) ∧ Aside0 (kq ≤ k) ∧ Drawn0 w w')
    case atStart => exact ⟨(0), (by first | rfl | (simp; done) | (simp [*]; done) | (simp [ne_nil_bool]; done)), H', ⟨Nat.le_refl _⟩, by repeat (first | exact Drawn0.refl _ | apply Drawn0.step)⟩
    case round =>
      clear H'
      try clear c1
      try clear p2
      try clear c3
      try clear c3b0
      try clear c3b1
      try clear c3b2
      obtain ⟨x5_1, rfl, HA, HK1, ⟨m1, rfl⟩⟩ := hrel
      cases gk with
      | zero => exact absurd HA.out (by simp [vinculumref46_Same.l0])
      | succ k1 =>
        have H := HA.out
        clear HA
        simp only [vinculumref46_Same.l0] at H
        by_cases c4 : x5_1 < (l0.length : Int)
        · rw [if_pos c4] at H
          have c4b0 : decide (x5_1 < (l0.length : Int)) = true := decide_eq_true c4
          clear c4
          by_cases c5 : 0 ≤ x5_1
          · rw [if_pos c5] at H
            have c5b0 : decide (0 ≤ x5_1) = true := decide_eq_true c5
            clear c5
            by_cases c6 : x5_1 < (l1.length : Int)
            · rw [if_pos c6] at H
              have c6b0 : decide (x5_1 < (l1.length : Int)) = true := decide_eq_true c6
              clear c6
              by_cases c7 : (rd l0 x5_1) = (rd l1 x5_1)
              · rw [if_pos c7] at H
                have c7b0 : ((rd l0 x5_1) == (rd l1 x5_1)) = true := beq_iff_eq.mpr c7
                have c7b1 : ((rd l0 x5_1) != (rd l1 x5_1)) = false := bne_eq_false_iff_eq.mpr c7
                clear c7
                have H' := Aside0.mk H
                clear H
                have p116 : 0 ≤ (x5_1 : Int) := of_decide_eq_true (by first | (with_reducible assumption) | assumption)
                have q116 : x5_1 < (l0.length : Int) := of_decide_eq_true (by first | (with_reducible assumption) | assumption)
                obtain ⟨ad116, e116, hx116_0⟩ := Kd.at_int HR0.out x5_1 p116 q116
                cases e116
                replace p116 := eq_true p116
                replace q116 := eq_true q116
                have p117 : 0 ≤ (x5_1 : Int) := of_decide_eq_true (by first | (with_reducible assumption) | assumption)
                have q117 : x5_1 < (l1.length : Int) := of_decide_eq_true (by first | (with_reducible assumption) | assumption)
                obtain ⟨ad117, e117, hx117_0⟩ := Kd.at_int HR1.out x5_1 p117 q117
                cases e117
                replace p117 := eq_true p117
                replace q117 := eq_true q117
                go_wp2
                repeat (go_quiet (fail); try go_wp2)
                go_roundg k1
                case measure => have := HK1.out; omega
                case rel => exact ⟨(wrap64 (x5_1 + 1)), (by first | rfl | (simp; done) | (simp [*]; done) | (simp [ne_nil_bool]; done)), H', ⟨by have := HK1.out; omega⟩, by repeat (first | exact Drawn0.refl _ | apply Drawn0.step)⟩
              · rw [if_neg c7] at H
                have c7b0 : ((rd l0 x5_1) == (rd l1 x5_1)) = false := beq_eq_false_iff_ne.mpr c7
                have c7b1 : ((rd l0 x5_1) != (rd l1 x5_1)) = true := bne_iff_ne.mpr c7
                obtain rfl := Option.some.inj H
                have p116 : 0 ≤ (x5_1 : Int) := of_decide_eq_true (by first | (with_reducible assumption) | assumption)
                have q116 : x5_1 < (l0.length : Int) := of_decide_eq_true (by first | (with_reducible assumption) | assumption)
                obtain ⟨ad116, e116, hx116_0⟩ := Kd.at_int HR0.out x5_1 p116 q116
                cases e116
                replace p116 := eq_true p116
                replace q116 := eq_true q116
                have p117 : 0 ≤ (x5_1 : Int) := of_decide_eq_true (by first | (with_reducible assumption) | assumption)
                have q117 : x5_1 < (l1.length : Int) := of_decide_eq_true (by first | (with_reducible assumption) | assumption)
                obtain ⟨ad117, e117, hx117_0⟩ := Kd.at_int HR1.out x5_1 p117 q117
                cases e117
                replace p117 := eq_true p117
                replace q117 := eq_true q117
                go_wp2
                repeat (go_quiet (fail); try go_wp2)
                go_ret
                exact ⟨by first | rfl | (simp; done) | (simp [*]; done), by repeat (first | exact Drawn0.refl _ | apply Drawn0.step)⟩
            · rw [if_neg c6] at H
              exact absurd H (by simp)
          · rw [if_neg c5] at H
            exact absurd H (by simp)
        · rw [if_neg c4] at H
          have c4b0 : decide (x5_1 < (l0.length : Int)) = false := decide_eq_false c4
          clear c4
          obtain rfl := Option.some.inj H
          go_wp2
          repeat (go_quiet (fail); try go_wp2)
          go_ret
          exact ⟨by first | rfl | (simp; done) | (simp [*]; done), by repeat (first | exact Drawn0.refl _ | apply Drawn0.step)⟩
  · rw [if_neg c3] at H
    have c3b0 : ((l0.length : Int) == (l1.length : Int)) = false := beq_eq_false_iff_ne.mpr c3
    have c3b1 : ((l0.length : Int) != (l1.length : Int)) = true := bne_iff_ne.mpr c3
    have c3b2 : (l0.length == l1.length) = false := by first | simpa using c3 | (simp at c3 ⊢; omega)
    obtain rfl := Option.some.inj H
    go_enter Try.func13, Try.ntmps13
    go_wp2
    repeat (go_quiet (fail); try go_wp2)
    go_ret
    exact ⟨by first | rfl | (simp; done) | (simp [*]; done), by repeat (first | exact Drawn0.refl _ | apply Drawn0.step)⟩

/-! ### certificate_Bound: function 16, by hand -/
section
open Go.Shelf
attribute [local go_sem] Oper.semAt_some
/-- A potential that is too great for a line. -/
def certificate_Bound.v (ps : List Int) (i : Int) (x : Int × Int) : Bool := decide (rd ps i > wrap64 (x.2 + rd ps x.1))
/-- Bound's second loop, where e pieces are left. -/
def certificate_Bound.l (k : Nat) (xs : List S50) (wd ind : Int) (ps : List Int) : Nat → Option Bool
  | 0 => some true
  | e + 1 => (certificate_problem_from.l k xs wd ind ((xs.length - (e + 1) : Nat) : Int) (xs.length - (xs.length - (e + 1)))).bind fun ys => if ys.any (certificate_Bound.v ps ((xs.length - (e + 1) : Nat) : Int)) = true then some false else certificate_Bound.l k xs wd ind ps e
def certificate_Bound.r (x : Int) : Bool := decide (-1099511627776 ≤ x ∧ x ≤ 1099511627776)
theorem bound_r_true {z : Int} (h : certificate_Bound.r z = true) : -1099511627776 ≤ z ∧ z ≤ 1099511627776 := of_decide_eq_true h
theorem bound_r_false {z : Int} (h : ¬ certificate_Bound.r z = true) : z < -1099511627776 ∨ z > 1099511627776 := by
  unfold certificate_Bound.r at h
  simp only [decide_eq_true_eq] at h
  omega
def certificate_Bound.f (k : Nat) (l0 : List S50) (a1 a2 : Int) (l3 : List Int) : Option (Int × Bool) :=
  if l0.length ≤ 1000 then ((certificate_problem_valid.f k l0 a1 a2).bind fun v => if v = true then (if l3.length = l0.length + 1 then (if rd l3 (l0.length : Int) = 0 then (if l3.all certificate_Bound.r = true then (certificate_Bound.l k l0 a1 a2 l3 l0.length).bind fun b => (if b = true then some (rd l3 0, true) else some (0, false)) else some (0, false)) else some (0, false)) else some (0, false)) else some (0, false)) else none
theorem from_sub {k : Nat} {xs : List S50} {wd ind i : Int} {j m : Nat} {zs ys : List (Int × Int)} (hz : certificate_problem_from.l k xs wd ind i j = some zs) (h : certificate_problem_from.l k xs wd ind i m = some ys) (hj : j ≤ m) : ∀ y ∈ zs, y ∈ ys := by
  induction m generalizing ys with
  | zero =>
    obtain rfl : j = 0 := by omega
    rw [hz] at h
    obtain rfl := Option.some.inj h
    exact fun y hy => hy
  | succ m ih =>
    by_cases e : j = m + 1
    · subst e
      rw [hz] at h
      obtain rfl := Option.some.inj h
      exact fun y hy => hy
    · simp only [certificate_problem_from.l] at h
      obtain ⟨l, hl, h⟩ := Option.bind_eq_some_iff.1 h
      obtain ⟨r, hr, h⟩ := Option.bind_eq_some_iff.1 h
      obtain rfl := Option.some.inj h
      intro y hy
      have := ih hl (by omega) y hy
      split
      · exact List.mem_append_left _ this
      · exact this
theorem bound_end {w W : World} {r1 : Int} {r2 : Bool} {tm : Array Value} {Ds : List Nat} (h8 : tm[8]? = some (.pointer (some ⟨w.heap.size + 1, 0, none⟩))) (h9 : tm[9]? = some (.pointer (some ⟨w.heap.size + 1 + 1, 0, none⟩))) (b8 : W.heap[w.heap.size + 1]? = some (.cells #[.int .i64 r1] 3 (0, 0))) (b9 : W.heap[w.heap.size + 1 + 1]? = some (.cells #[.bool r2] 4 (0, 0)))
    (hO : Opn W Ds) (hB : Below w.heap.size w W) (hl : ∀ D ∈ Ds, w.heap.size ≤ D) :
    LeavesInM Fence.wide 8 Try.prog Try.f16 tm (fun e w' => e = .returned (.tuple #[.int .i64 r1, .bool r2]) ∧ Below w.heap.size w w') (mks Ds) .returning W := by
  refine leaves_mks Ds W hO (fun W' hW => ⟨.tuple #[.int .i64 r1, .bool r2], ?_, rfl, hB.trans (hW.below hl)⟩)
  have g8 : W'.cell? ⟨w.heap.size + 1, 0, none⟩ = some (.int .i64 r1) := (blk_cell (hW.blk hO b8) 0).trans rfl
  have g9 : W'.cell? ⟨w.heap.size + 1 + 1, 0, none⟩ = some (.bool r2) := (blk_cell (hW.blk hO b9) 0).trans rfl
  simp [results, Try.f16, go_sem, g8, g9, h8, h9]
/-- What Bound keeps in memory: its four boxes. -/
structure BdI (w : World) (A0 : Option Addr) (c0 : Nat) (l0 : List S50) (a1 a2 : Int) (A3 : Option Addr) (c3 : Nat) (l3 : List Int) (W : World) : Prop where
  i7 : W.heap[w.heap.size]? = some (.cells #[.slice A3 l3.length c3] 26 (0, 0))
  i8 : W.heap[w.heap.size + 1]? = some (.cells #[.int .i64 0] 3 (0, 0))
  i9 : W.heap[w.heap.size + 1 + 1]? = some (.cells #[.bool false] 4 (0, 0))
  i10 : W.heap[w.heap.size + 1 + 1 + 1]? = some (.cells #[.slice A0 l0.length c0, .int .i64 a1, .int .i64 a2] 54 (0, 0))
  below : Below w.heap.size w W
theorem BdI.then_ {w W W' : World} {A0 : Option Addr} {c0 : Nat} {l0 : List S50} {a1 a2 : Int} {A3 : Option Addr} {c3 : Nat} {l3 : List Int} (h : BdI w A0 c0 l0 a1 a2 A3 c3 l3 W) (hb : Below W.heap.size W W') : BdI w A0 c0 l0 a1 a2 A3 c3 l3 W' :=
  ⟨blk_below h.i7 hb, blk_below h.i8 hb, blk_below h.i9 hb, blk_below h.i10 hb, h.below.trans (hb.mono h.below.size)⟩
theorem bd_start (w : World) (A0 : Option Addr) (c0 : Nat) (l0 : List S50) (a1 a2 : Int) (A3 : Option Addr) (c3 : Nat) (l3 : List Int) :
    BdI w A0 c0 l0 a1 a2 A3 c3 l3 ((((w.alloc (.cells #[.slice A3 l3.length c3] 26)).alloc (.cells #[.int .i64 0] 3)).alloc (.cells #[.bool false] 4)).alloc (.cells #[.slice A0 l0.length c0, .int .i64 a1, .int .i64 a2] 54)) := by
  refine ⟨blk_alloc (blk_alloc (blk_alloc (blk_new w _) _) _) _, ?_, ?_, ?_, ((((Below.refl _ w).alloc (Nat.le_refl _) _).alloc (by simp) _).alloc (by simp; omega) _).alloc (by simp; omega) _⟩
  · have h1 := blk_new (w.alloc (.cells #[.slice A3 l3.length c3] 26)) (.cells #[.int .i64 0] 3)
    rw [World.size_alloc] at h1
    exact blk_alloc (blk_alloc h1 _) _
  · have h1 := blk_new ((w.alloc (.cells #[.slice A3 l3.length c3] 26)).alloc (.cells #[.int .i64 0] 3)) (.cells #[.bool false] 4)
    rw [World.size_alloc, World.size_alloc] at h1
    exact blk_alloc h1 _
  · have h1 := blk_new (((w.alloc (.cells #[.slice A3 l3.length c3] 26)).alloc (.cells #[.int .i64 0] 3)).alloc (.cells #[.bool false] 4)) (.cells #[.slice A0 l0.length c0, .int .i64 a1, .int .i64 a2] 54)
    rw [World.size_alloc, World.size_alloc, World.size_alloc] at h1
    exact h1
/-- Bound gives up: the result's boxes are written. -/
theorem bd_no {w W : World} {A0 : Option Addr} {c0 : Nat} {l0 : List S50} {a1 a2 : Int} {A3 : Option Addr} {c3 : Nat} {l3 : List Int} (h : BdI w A0 c0 l0 a1 a2 A3 c3 l3 W) (r1 : Int) (r2 : Bool) :
    ((W.setCell ⟨w.heap.size + 1, 0, none⟩ (.int .i64 r1)).setCell ⟨w.heap.size + 1 + 1, 0, none⟩ (.bool r2)).heap[w.heap.size + 1]? = some (.cells #[.int .i64 r1] 3 (0, 0)) ∧ ((W.setCell ⟨w.heap.size + 1, 0, none⟩ (.int .i64 r1)).setCell ⟨w.heap.size + 1 + 1, 0, none⟩ (.bool r2)).heap[w.heap.size + 1 + 1]? = some (.cells #[.bool r2] 4 (0, 0)) ∧ Below w.heap.size w ((W.setCell ⟨w.heap.size + 1, 0, none⟩ (.int .i64 r1)).setCell ⟨w.heap.size + 1 + 1, 0, none⟩ (.bool r2)) :=
  ⟨blk_far (blk_put h.i8 0 _ rfl) (p := ⟨w.heap.size + 1 + 1, 0, none⟩) (show w.heap.size + 1 ≠ w.heap.size + 1 + 1 by omega) _, blk_put (blk_far h.i9 (p := ⟨w.heap.size + 1, 0, none⟩) (show w.heap.size + 1 + 1 ≠ w.heap.size + 1 by omega) _) 0 _ rfl,
    (h.below.setCell (p := ⟨w.heap.size + 1, 0, none⟩) (by simp) _).setCell (p := ⟨w.heap.size + 1 + 1, 0, none⟩) (by simp; omega) _⟩
set_option maxRecDepth 100000 in
set_option maxHeartbeats 4000000 in
theorem bound_v (k : Nat) (A0 : Option Addr) (c0 : Nat) (l0 : List S50) (a1 a2 : Int) (A3 : Option Addr) (c3 : Nat) (l3 : List Int) (w : World) (hr0 : Kd.C k50 w A0 l0.length l0) (hc0 : l0.length ≤ c0) (hr3 : Kd.C (Kd.int .i64) w A3 l3.length l3) (hc3 : l3.length ≤ c3) (HV : Aside0 (certificate_problem_valid.f k l0 a1 a2 = some false)) :
    Calls Try.prog 16 #[.slice A0 l0.length c0, .int .i64 a1, .int .i64 a2, .slice A3 l3.length c3] w fun e w' => e = .returned (.tuple #[.int .i64 0, .bool false]) ∧ Below w.heap.size w w' := by
  have HR := Aside0.mk hr0
  have HC := Aside0.mk hc0
  have HR3 := Aside0.mk hr3
  have HC3 := Aside0.mk hc3
  clear hr0 hc0 hr3 hc3
  have hu54 := Try.underlying54
  refine (callsIn_wide (n := 8)).1 ?_
  refine callsIn_of_wp_marks Try.func16 rfl trivial ?_ rfl
  simp only [Try.ntmps16, List.size_toArray, List.length_cons, List.length_nil, Nat.reduceAdd, Nat.reduceSub, Array.replicate_succ, Array.replicate_zero, List.push_toArray, List.append_toArray, List.nil_append, List.cons_append]
  have HS := Aside0.mk (bd_start w A0 c0 l0 a1 a2 A3 c3 l3)
  obtain ⟨WB, hWB⟩ : ∃ WB, (((w.alloc (.cells #[.slice A3 l3.length c3] 26)).alloc (.cells #[.int .i64 0] 3)).alloc (.cells #[.bool false] 4)).alloc (.cells #[.slice A0 l0.length c0, .int .i64 a1, .int .i64 a2] 54) = WB := ⟨_, rfl⟩
  rw [hWB] at HS
  have x10 : WB.cell? ⟨w.heap.size + 1 + 1 + 1, 0, none⟩ = some (.slice A0 l0.length c0) := (blk_cell HS.out.i10 0).trans rfl
  have x11 : WB.cell? ⟨w.heap.size + 1 + 1 + 1, 1, none⟩ = some (.int .i64 a1) := (blk_cell HS.out.i10 1).trans rfl
  have x12 : WB.cell? ⟨w.heap.size + 1 + 1 + 1, 2, none⟩ = some (.int .i64 a2) := (blk_cell HS.out.i10 2).trans rfl
  gi_wp2_with (first | (refine ⟨trivial, ?_⟩; gi_at_call 24; (refine (callsIn_wide.2 (certificate_problem_valid.calls k _ _ l0 a1 a2 false _ ?s1 ?s2 HV.out)).mono ?_); (case s1 => exact Kd.C_below HR.out HS.out.below); (case s2 => exact HC.out); rintro e w5 ⟨rfl, hb⟩; (have H5 := Aside0.mk (HS.out.then_ hb)); clear hb; (have d7 : w5.cell? ⟨w.heap.size, 0, none⟩ = some (.slice A3 l3.length c3) := (blk_cell H5.out.i7 0).trans rfl); (have d8 : w5.cell? ⟨w.heap.size + 1, 0, none⟩ = some (.int .i64 0) := (blk_cell H5.out.i8 0).trans rfl); (have d9 : w5.cell? ⟨w.heap.size + 1 + 1, 0, none⟩ = some (.bool false) := (blk_cell H5.out.i9 0).trans rfl); (have g8 := blk_frozen H5.out.i8 0); (have g9 := blk_frozen H5.out.i9 0)))
  refine bound_end (Ds := []) rfl rfl (bd_no H5.out 0 false).1 (bd_no H5.out 0 false).2.1 (Opn.nil _) (bd_no H5.out 0 false).2.2 (fun D hD => by cases hD)
set_option maxRecDepth 100000 in
set_option maxHeartbeats 4000000 in
theorem bound_len (k : Nat) (A0 : Option Addr) (c0 : Nat) (l0 : List S50) (a1 a2 : Int) (A3 : Option Addr) (c3 : Nat) (l3 : List Int) (w : World) (hr0 : Kd.C k50 w A0 l0.length l0) (hc0 : l0.length ≤ c0) (hr3 : Kd.C (Kd.int .i64) w A3 l3.length l3) (hc3 : l3.length ≤ c3) (HV : Aside0 (certificate_problem_valid.f k l0 a1 a2 = some true)) (hlen : l3.length ≠ l0.length + 1) (h64 : l0.length ≤ 9223372036854775000) :
    Calls Try.prog 16 #[.slice A0 l0.length c0, .int .i64 a1, .int .i64 a2, .slice A3 l3.length c3] w fun e w' => e = .returned (.tuple #[.int .i64 0, .bool false]) ∧ Below w.heap.size w w' := by
  have HR := Aside0.mk hr0
  have HC := Aside0.mk hc0
  have HR3 := Aside0.mk hr3
  have HC3 := Aside0.mk hc3
  clear hr0 hc0 hr3 hc3
  have hu54 := Try.underlying54
  refine (callsIn_wide (n := 8)).1 ?_
  refine callsIn_of_wp_marks Try.func16 rfl trivial ?_ rfl
  simp only [Try.ntmps16, List.size_toArray, List.length_cons, List.length_nil, Nat.reduceAdd, Nat.reduceSub, Array.replicate_succ, Array.replicate_zero, List.push_toArray, List.append_toArray, List.nil_append, List.cons_append]
  have HS := Aside0.mk (bd_start w A0 c0 l0 a1 a2 A3 c3 l3)
  obtain ⟨WB, hWB⟩ : ∃ WB, (((w.alloc (.cells #[.slice A3 l3.length c3] 26)).alloc (.cells #[.int .i64 0] 3)).alloc (.cells #[.bool false] 4)).alloc (.cells #[.slice A0 l0.length c0, .int .i64 a1, .int .i64 a2] 54) = WB := ⟨_, rfl⟩
  rw [hWB] at HS
  have x10 : WB.cell? ⟨w.heap.size + 1 + 1 + 1, 0, none⟩ = some (.slice A0 l0.length c0) := (blk_cell HS.out.i10 0).trans rfl
  have x11 : WB.cell? ⟨w.heap.size + 1 + 1 + 1, 1, none⟩ = some (.int .i64 a1) := (blk_cell HS.out.i10 1).trans rfl
  have x12 : WB.cell? ⟨w.heap.size + 1 + 1 + 1, 2, none⟩ = some (.int .i64 a2) := (blk_cell HS.out.i10 2).trans rfl
  have e0 : ((l3.length : Int) != (l0.length : Int) + 1) = true := by rw [bne_iff_ne]; omega
  have e1 : ((l3.length : Int) == (l0.length : Int) + 1) = false := beq_eq_false_iff_ne.2 (by omega)
  clear hlen
  gi_wp2_with (first | (refine ⟨trivial, ?_⟩; gi_at_call 24; (refine (callsIn_wide.2 (certificate_problem_valid.calls k _ _ l0 a1 a2 true _ ?s1 ?s2 HV.out)).mono ?_); (case s1 => exact Kd.C_below HR.out HS.out.below); (case s2 => exact HC.out); rintro e w5 ⟨rfl, hb⟩; (have H5 := Aside0.mk (HS.out.then_ hb)); clear hb; (have d7 : w5.cell? ⟨w.heap.size, 0, none⟩ = some (.slice A3 l3.length c3) := (blk_cell H5.out.i7 0).trans rfl); (have d8 : w5.cell? ⟨w.heap.size + 1, 0, none⟩ = some (.int .i64 0) := (blk_cell H5.out.i8 0).trans rfl); (have d9 : w5.cell? ⟨w.heap.size + 1 + 1, 0, none⟩ = some (.bool false) := (blk_cell H5.out.i9 0).trans rfl); (have g8 := blk_frozen H5.out.i8 0); (have g9 := blk_frozen H5.out.i9 0)))
  refine bound_end (Ds := []) rfl rfl (bd_no H5.out 0 false).1 (bd_no H5.out 0 false).2.1 (Opn.nil _) (bd_no H5.out 0 false).2.2 (fun D hD => by cases hD)
set_option maxRecDepth 100000 in
set_option maxHeartbeats 4000000 in
theorem bound_last (k : Nat) (A0 : Option Addr) (c0 : Nat) (l0 : List S50) (a1 a2 : Int) (A3 : Option Addr) (c3 : Nat) (l3 : List Int) (w : World) (hr0 : Kd.C k50 w A0 l0.length l0) (hc0 : l0.length ≤ c0) (hr3 : Kd.C (Kd.int .i64) w A3 l3.length l3) (hc3 : l3.length ≤ c3) (HV : Aside0 (certificate_problem_valid.f k l0 a1 a2 = some true)) (hlen : l3.length = l0.length + 1) (hx : rd l3 (l0.length : Int) ≠ 0) (h64 : l0.length ≤ 9223372036854775000) :
    Calls Try.prog 16 #[.slice A0 l0.length c0, .int .i64 a1, .int .i64 a2, .slice A3 l3.length c3] w fun e w' => e = .returned (.tuple #[.int .i64 0, .bool false]) ∧ Below w.heap.size w w' := by
  have HR := Aside0.mk hr0
  have HC := Aside0.mk hc0
  have HR3 := Aside0.mk hr3
  have HC3 := Aside0.mk hc3
  clear hr0 hc0 hr3 hc3
  have hu54 := Try.underlying54
  refine (callsIn_wide (n := 8)).1 ?_
  refine callsIn_of_wp_marks Try.func16 rfl trivial ?_ rfl
  simp only [Try.ntmps16, List.size_toArray, List.length_cons, List.length_nil, Nat.reduceAdd, Nat.reduceSub, Array.replicate_succ, Array.replicate_zero, List.push_toArray, List.append_toArray, List.nil_append, List.cons_append]
  have HS := Aside0.mk (bd_start w A0 c0 l0 a1 a2 A3 c3 l3)
  obtain ⟨WB, hWB⟩ : ∃ WB, (((w.alloc (.cells #[.slice A3 l3.length c3] 26)).alloc (.cells #[.int .i64 0] 3)).alloc (.cells #[.bool false] 4)).alloc (.cells #[.slice A0 l0.length c0, .int .i64 a1, .int .i64 a2] 54) = WB := ⟨_, rfl⟩
  rw [hWB] at HS
  have x10 : WB.cell? ⟨w.heap.size + 1 + 1 + 1, 0, none⟩ = some (.slice A0 l0.length c0) := (blk_cell HS.out.i10 0).trans rfl
  have x11 : WB.cell? ⟨w.heap.size + 1 + 1 + 1, 1, none⟩ = some (.int .i64 a1) := (blk_cell HS.out.i10 1).trans rfl
  have x12 : WB.cell? ⟨w.heap.size + 1 + 1 + 1, 2, none⟩ = some (.int .i64 a2) := (blk_cell HS.out.i10 2).trans rfl
  obtain ⟨ad, rfl, hxc⟩ := Kd.at_int HR3.out (l0.length : Int) (by omega) (by omega)
  rw [Int.toNat_natCast] at hxc
  have HXC := Aside0.mk hxc
  clear hxc
  obtain ⟨y, hy⟩ : ∃ y, rd l3 (l0.length : Int) = y := ⟨_, rfl⟩
  rw [hy] at hx HXC
  have HY := Aside0.mk hy
  have HLEN := Aside0.mk hlen
  have e0 : ((l3.length : Int) != (l0.length : Int) + 1) = false := by rw [hlen]; simp
  have e1 : ((l3.length : Int) == (l0.length : Int) + 1) = true := beq_iff_eq.2 (by omega)
  have q0 : (l0.length < l3.length) = True := eq_true (by omega)
  have q1 : ((l0.length : Int) < (l3.length : Int)) = True := eq_true (by omega)
  clear hy hlen
  have e2 : (y != 0) = true := by rw [bne_iff_ne]; exact hx
  have e3 : (y == 0) = false := beq_eq_false_iff_ne.2 hx
  clear hx
  gi_wp2_with (first | (refine ⟨trivial, ?_⟩; gi_at_call 24; (refine (callsIn_wide.2 (certificate_problem_valid.calls k _ _ l0 a1 a2 true _ ?s1 ?s2 HV.out)).mono ?_); (case s1 => exact Kd.C_below HR.out HS.out.below); (case s2 => exact HC.out); rintro e w5 ⟨rfl, hb⟩; (have H5 := Aside0.mk (HS.out.then_ hb)); clear hb; (have d7 : w5.cell? ⟨w.heap.size, 0, none⟩ = some ((.slice (some ad) l3.length c3)) := (blk_cell H5.out.i7 0).trans rfl); (have d8 : w5.cell? ⟨w.heap.size + 1, 0, none⟩ = some (.int .i64 0) := (blk_cell H5.out.i8 0).trans rfl); (have d9 : w5.cell? ⟨w.heap.size + 1 + 1, 0, none⟩ = some (.bool false) := (blk_cell H5.out.i9 0).trans rfl); (have g8 := blk_frozen H5.out.i8 0); (have g9 := blk_frozen H5.out.i9 0); (have dx := (H5.out.below.cell (World.block_lt_of_cell? w _ HXC.out)).trans HXC.out)))
  refine bound_end (Ds := []) rfl rfl (bd_no H5.out 0 false).1 (bd_no H5.out 0 false).2.1 (Opn.nil _) (bd_no H5.out 0 false).2.2 (fun D hD => by cases hD)
set_option maxRecDepth 100000 in
set_option maxHeartbeats 4000000 in
theorem bound_range (k : Nat) (A0 : Option Addr) (c0 : Nat) (l0 : List S50) (a1 a2 : Int) (A3 : Option Addr) (c3 : Nat) (l3 : List Int) (w : World) (hr0 : Kd.C k50 w A0 l0.length l0) (hc0 : l0.length ≤ c0) (hr3 : Kd.C (Kd.int .i64) w A3 l3.length l3) (hc3 : l3.length ≤ c3) (HV : Aside0 (certificate_problem_valid.f k l0 a1 a2 = some true)) (hlen : l3.length = l0.length + 1) (hx : rd l3 (l0.length : Int) = 0) (hall : Aside0 (l3.all certificate_Bound.r = false)) (h64 : l0.length ≤ 9223372036854775000) :
    Calls Try.prog 16 #[.slice A0 l0.length c0, .int .i64 a1, .int .i64 a2, .slice A3 l3.length c3] w fun e w' => e = .returned (.tuple #[.int .i64 0, .bool false]) ∧ Below w.heap.size w w' := by
  have HR := Aside0.mk hr0
  have HC := Aside0.mk hc0
  have HR3 := Aside0.mk hr3
  have HC3 := Aside0.mk hc3
  clear hr0 hc0 hr3 hc3
  have hu54 := Try.underlying54
  refine (callsIn_wide (n := 8)).1 ?_
  refine callsIn_of_wp_marks Try.func16 rfl trivial ?_ rfl
  simp only [Try.ntmps16, List.size_toArray, List.length_cons, List.length_nil, Nat.reduceAdd, Nat.reduceSub, Array.replicate_succ, Array.replicate_zero, List.push_toArray, List.append_toArray, List.nil_append, List.cons_append]
  have HS := Aside0.mk (bd_start w A0 c0 l0 a1 a2 A3 c3 l3)
  obtain ⟨WB, hWB⟩ : ∃ WB, (((w.alloc (.cells #[.slice A3 l3.length c3] 26)).alloc (.cells #[.int .i64 0] 3)).alloc (.cells #[.bool false] 4)).alloc (.cells #[.slice A0 l0.length c0, .int .i64 a1, .int .i64 a2] 54) = WB := ⟨_, rfl⟩
  rw [hWB] at HS
  have x10 : WB.cell? ⟨w.heap.size + 1 + 1 + 1, 0, none⟩ = some (.slice A0 l0.length c0) := (blk_cell HS.out.i10 0).trans rfl
  have x11 : WB.cell? ⟨w.heap.size + 1 + 1 + 1, 1, none⟩ = some (.int .i64 a1) := (blk_cell HS.out.i10 1).trans rfl
  have x12 : WB.cell? ⟨w.heap.size + 1 + 1 + 1, 2, none⟩ = some (.int .i64 a2) := (blk_cell HS.out.i10 2).trans rfl
  obtain ⟨ad, rfl, hxc⟩ := Kd.at_int HR3.out (l0.length : Int) (by omega) (by omega)
  rw [Int.toNat_natCast] at hxc
  have HXC := Aside0.mk hxc
  clear hxc
  obtain ⟨y, hy⟩ : ∃ y, rd l3 (l0.length : Int) = y := ⟨_, rfl⟩
  rw [hy] at hx HXC
  have HY := Aside0.mk hy
  have HLEN := Aside0.mk hlen
  have e0 : ((l3.length : Int) != (l0.length : Int) + 1) = false := by rw [hlen]; simp
  have e1 : ((l3.length : Int) == (l0.length : Int) + 1) = true := beq_iff_eq.2 (by omega)
  have q0 : (l0.length < l3.length) = True := eq_true (by omega)
  have q1 : ((l0.length : Int) < (l3.length : Int)) = True := eq_true (by omega)
  clear hy hlen
  have e2 : (y != 0) = false := by rw [hx]; rfl
  have e3 : (y == 0) = true := beq_iff_eq.2 hx
  have H63 := Aside0.mk h64
  clear hx
  gi_wp2_with (first | (refine ⟨trivial, ?_⟩; gi_at_call 24; (refine (callsIn_wide.2 (certificate_problem_valid.calls k _ _ l0 a1 a2 true _ ?s1 ?s2 HV.out)).mono ?_); (case s1 => exact Kd.C_below HR.out HS.out.below); (case s2 => exact HC.out); rintro e w5 ⟨rfl, hb⟩; (have H5 := Aside0.mk (HS.out.then_ hb)); clear hb; (have d7 : w5.cell? ⟨w.heap.size, 0, none⟩ = some ((.slice (some ad) l3.length c3)) := (blk_cell H5.out.i7 0).trans rfl); (have d8 : w5.cell? ⟨w.heap.size + 1, 0, none⟩ = some (.int .i64 0) := (blk_cell H5.out.i8 0).trans rfl); (have d9 : w5.cell? ⟨w.heap.size + 1 + 1, 0, none⟩ = some (.bool false) := (blk_cell H5.out.i9 0).trans rfl); (have g8 := blk_frozen H5.out.i8 0); (have g9 := blk_frozen H5.out.i9 0); (have dx := (H5.out.below.cell (World.block_lt_of_cell? w _ HXC.out)).trans HXC.out)))
  gi_loop [42] (fun t => ∃ j : Nat, j ≤ l3.length ∧ t = .int .i64 (j : Int) ∧ Aside0 (∀ i : Nat, i < j → certificate_Bound.r (rd l3 (i : Int)) = true)) (fun t => l3.length - (intOf t).toNat)
  case atStart => exact ⟨0, Nat.zero_le _, rfl, ⟨fun i hi => by omega⟩⟩
  case round =>
    obtain ⟨j, hj, rfl, HJ⟩ := hrel
    by_cases hlt : j < l3.length
    · obtain ⟨ad', ea, hyc⟩ := Kd.at_int HR3.out (j : Int) (by omega) (by omega)
      obtain rfl := Option.some.inj ea
      rw [Int.toNat_natCast] at hyc
      replace hyc := (H5.out.below.cell (World.block_lt_of_cell? w _ hyc)).trans hyc
      obtain ⟨z, hz⟩ : ∃ z, rd l3 (j : Int) = z := ⟨_, rfl⟩
      rw [hz] at hyc
      have HZ := Aside0.mk hz
      clear hz ea
      have q2 : ((j : Int) < (l3.length : Int)) = True := eq_true (by omega)
      have q3 : decide ((j : Int) < (l3.length : Int)) = true := decide_eq_true (by omega)
      have arg1 : wrap64 ((j : Int) + 1) = ((j + 1 : Nat) : Int) := by have := H63.out; have := HLEN.out; unfold wrap64; omega
      by_cases hr : certificate_Bound.r z = true
      · have hr' := bound_r_true hr
        have r1 : decide (z < -1099511627776) = false := decide_eq_false (by omega)
        have r2 : decide (z > 1099511627776) = false := decide_eq_false (by omega)
        have r3 : decide (1099511627776 < z) = false := decide_eq_false (by omega)
        have HRZ := Aside0.mk hr
        clear hr hr'
        gi_wp2
        go_round
        case measure => rw [arg1]; simp [intOf]; omega
        case rel => exact ⟨j + 1, by omega, by rw [arg1], ⟨fun i hi => by
          by_cases e : i = j
          · subst e
            rw [HZ.out]
            exact HRZ.out
          · exact HJ.out i (by omega)⟩⟩
      · by_cases lo : z < -1099511627776
        · have r1 : decide (z < -1099511627776) = true := decide_eq_true lo
          clear lo hr
          gi_wp2
          refine bound_end (Ds := []) rfl rfl (bd_no H5.out 0 false).1 (bd_no H5.out 0 false).2.1 (Opn.nil _) (bd_no H5.out 0 false).2.2 (fun D hD => by cases hD)
        · have r1 : decide (z < -1099511627776) = false := decide_eq_false lo
          have hi : z > 1099511627776 := (bound_r_false hr).resolve_left lo
          have r2 : decide (z > 1099511627776) = true := decide_eq_true hi
          have r3 : decide (1099511627776 < z) = true := decide_eq_true hi
          clear lo hr hi
          gi_wp2
          refine bound_end (Ds := []) rfl rfl (bd_no H5.out 0 false).1 (bd_no H5.out 0 false).2.1 (Opn.nil _) (bd_no H5.out 0 false).2.2 (fun D hD => by cases hD)
    · obtain rfl : j = l3.length := by omega
      have q3 : decide ((l3.length : Int) < (l3.length : Int)) = false := decide_eq_false (by omega)
      exfalso
      have h1 := hall.out
      rw [show l3.all certificate_Bound.r = true from List.all_eq_true.2 (fun x hx => by
        obtain ⟨i, hi, rfl⟩ := List.getElem_of_mem hx
        have := HJ.out i hi
        rwa [show rd l3 (i : Int) = l3[i] from by simp [rd, hi]] at this)] at h1
      cases h1
set_option maxRecDepth 100000 in
set_option maxHeartbeats 4000000 in
theorem bound_main (k : Nat) (A0 : Option Addr) (c0 : Nat) (l0 : List S50) (a1 a2 : Int) (A3 : Option Addr) (c3 : Nat) (l3 : List Int) (w : World) (hr0 : Kd.C k50 w A0 l0.length l0) (hc0 : l0.length ≤ c0) (hr3 : Kd.C (Kd.int .i64) w A3 l3.length l3) (hc3 : l3.length ≤ c3) (HV : Aside0 (certificate_problem_valid.f k l0 a1 a2 = some true)) (hlen : l3.length = l0.length + 1) (hx : rd l3 (l0.length : Int) = 0) (hall : Aside0 (l3.all certificate_Bound.r = true)) (h64 : l0.length ≤ 1000) (b : Bool) (HL : Aside0 (certificate_Bound.l k l0 a1 a2 l3 l0.length = some b)) :
    Calls Try.prog 16 #[.slice A0 l0.length c0, .int .i64 a1, .int .i64 a2, .slice A3 l3.length c3] w fun e w' => e = .returned (.tuple #[.int .i64 (if b = true then rd l3 0 else 0), .bool b]) ∧ Below w.heap.size w w' := by
  have HR := Aside0.mk hr0
  have HC := Aside0.mk hc0
  have HR3 := Aside0.mk hr3
  have HC3 := Aside0.mk hc3
  clear hr0 hc0 hr3 hc3
  have hu54 := Try.underlying54
  refine (callsIn_wide (n := 8)).1 ?_
  refine callsIn_of_wp_marks Try.func16 rfl trivial ?_ rfl
  simp only [Try.ntmps16, List.size_toArray, List.length_cons, List.length_nil, Nat.reduceAdd, Nat.reduceSub, Array.replicate_succ, Array.replicate_zero, List.push_toArray, List.append_toArray, List.nil_append, List.cons_append]
  have HS := Aside0.mk (bd_start w A0 c0 l0 a1 a2 A3 c3 l3)
  obtain ⟨WB, hWB⟩ : ∃ WB, (((w.alloc (.cells #[.slice A3 l3.length c3] 26)).alloc (.cells #[.int .i64 0] 3)).alloc (.cells #[.bool false] 4)).alloc (.cells #[.slice A0 l0.length c0, .int .i64 a1, .int .i64 a2] 54) = WB := ⟨_, rfl⟩
  rw [hWB] at HS
  have x10 : WB.cell? ⟨w.heap.size + 1 + 1 + 1, 0, none⟩ = some (.slice A0 l0.length c0) := (blk_cell HS.out.i10 0).trans rfl
  have x11 : WB.cell? ⟨w.heap.size + 1 + 1 + 1, 1, none⟩ = some (.int .i64 a1) := (blk_cell HS.out.i10 1).trans rfl
  have x12 : WB.cell? ⟨w.heap.size + 1 + 1 + 1, 2, none⟩ = some (.int .i64 a2) := (blk_cell HS.out.i10 2).trans rfl
  obtain ⟨ad, rfl, hxc⟩ := Kd.at_int HR3.out (l0.length : Int) (by omega) (by omega)
  rw [Int.toNat_natCast] at hxc
  have HXC := Aside0.mk hxc
  clear hxc
  obtain ⟨y, hy⟩ : ∃ y, rd l3 (l0.length : Int) = y := ⟨_, rfl⟩
  rw [hy] at hx HXC
  have HY := Aside0.mk hy
  have HLEN := Aside0.mk hlen
  have e0 : ((l3.length : Int) != (l0.length : Int) + 1) = false := by rw [hlen]; simp
  have e1 : ((l3.length : Int) == (l0.length : Int) + 1) = true := beq_iff_eq.2 (by omega)
  have q0 : (l0.length < l3.length) = True := eq_true (by omega)
  have q1 : ((l0.length : Int) < (l3.length : Int)) = True := eq_true (by omega)
  clear hy hlen
  have e2 : (y != 0) = false := by rw [hx]; rfl
  have e3 : (y == 0) = true := beq_iff_eq.2 hx
  have H63 := Aside0.mk h64
  clear hx
  gi_wp2_with (first | (refine ⟨trivial, ?_⟩; gi_at_call 24; (refine (callsIn_wide.2 (certificate_problem_valid.calls k _ _ l0 a1 a2 true _ ?s1 ?s2 HV.out)).mono ?_); (case s1 => exact Kd.C_below HR.out HS.out.below); (case s2 => exact HC.out); rintro e w5 ⟨rfl, hb⟩; (have H5 := Aside0.mk (HS.out.then_ hb)); clear hb; (have d7 : w5.cell? ⟨w.heap.size, 0, none⟩ = some ((.slice (some ad) l3.length c3)) := (blk_cell H5.out.i7 0).trans rfl); (have d8 : w5.cell? ⟨w.heap.size + 1, 0, none⟩ = some (.int .i64 0) := (blk_cell H5.out.i8 0).trans rfl); (have d9 : w5.cell? ⟨w.heap.size + 1 + 1, 0, none⟩ = some (.bool false) := (blk_cell H5.out.i9 0).trans rfl); (have g8 := blk_frozen H5.out.i8 0); (have g9 := blk_frozen H5.out.i9 0); (have dx := (H5.out.below.cell (World.block_lt_of_cell? w _ HXC.out)).trans HXC.out)))
  gi_loop [42] (fun t => ∃ j : Nat, j ≤ l3.length ∧ t = .int .i64 (j : Int) ∧ Aside0 (∀ i : Nat, i < j → certificate_Bound.r (rd l3 (i : Int)) = true)) (fun t => l3.length - (intOf t).toNat)
  case atStart => exact ⟨0, Nat.zero_le _, rfl, ⟨fun i hi => by omega⟩⟩
  case round =>
    obtain ⟨j, hj, rfl, HJ⟩ := hrel
    by_cases hlt : j < l3.length
    · obtain ⟨ad', ea, hyc⟩ := Kd.at_int HR3.out (j : Int) (by omega) (by omega)
      obtain rfl := Option.some.inj ea
      rw [Int.toNat_natCast] at hyc
      replace hyc := (H5.out.below.cell (World.block_lt_of_cell? w _ hyc)).trans hyc
      obtain ⟨z, hz⟩ : ∃ z, rd l3 (j : Int) = z := ⟨_, rfl⟩
      rw [hz] at hyc
      have HZ := Aside0.mk hz
      clear hz ea
      have q2 : ((j : Int) < (l3.length : Int)) = True := eq_true (by omega)
      have q3 : decide ((j : Int) < (l3.length : Int)) = true := decide_eq_true (by omega)
      have arg1 : wrap64 ((j : Int) + 1) = ((j + 1 : Nat) : Int) := by have := H63.out; have := HLEN.out; unfold wrap64; omega
      by_cases hr : certificate_Bound.r z = true
      · have hr' := bound_r_true hr
        have r1 : decide (z < -1099511627776) = false := decide_eq_false (by omega)
        have r2 : decide (z > 1099511627776) = false := decide_eq_false (by omega)
        have r3 : decide (1099511627776 < z) = false := decide_eq_false (by omega)
        have HRZ := Aside0.mk hr
        clear hr hr'
        gi_wp2
        go_round
        case measure => rw [arg1]; simp [intOf]; omega
        case rel => exact ⟨j + 1, by omega, by rw [arg1], ⟨fun i hi => by
          by_cases e : i = j
          · subst e
            rw [HZ.out]
            exact HRZ.out
          · exact HJ.out i (by omega)⟩⟩
      · exfalso
        refine hr ?_
        rw [← HZ.out, show rd l3 (j : Int) = l3[j] from by simp [rd, hlt]]
        exact List.all_eq_true.1 hall.out _ (List.getElem_mem hlt)
    · obtain rfl : j = l3.length := by omega
      have q3 : decide ((l3.length : Int) < (l3.length : Int)) = false := decide_eq_false (by omega)
      have HJ2 := HJ
      clear HJ
      gi_wp2
      clear e0 e1 e2 e3 q0 q1 dx d7 d8 d9 g8 g9 hlt q3 HJ2 x10 x11 x12 HXC hWB HS
      have hmx : Try.prog.follows .mixedOrders = true := by kernel_rfl
      refine wpIn_loop_g (fun m a W => ∃ (Ds : List Nat) (u14 u55 u56 u57 u58 u59 u73 : Value), m ≤ l0.length ∧ Aside0 (certificate_Bound.l k l0 a1 a2 l3 m = some b) ∧ Aside0 (BdI w A0 c0 l0 a1 a2 (some ad) c3 l3 W) ∧ Aside0 (Opn W Ds ∧ ∀ D ∈ Ds, w.heap.size ≤ D) ∧ a = { tmps := List.toArray ((.slice A0 l0.length c0) :: (.int .i64 a1) :: (.int .i64 a2) :: (.slice (some ad) l3.length c3) :: undef :: undef :: undef :: (.pointer (some ⟨w.heap.size, 0, none⟩)) :: (.pointer (some ⟨w.heap.size + 1, 0, none⟩)) :: (.pointer (some ⟨w.heap.size + 1 + 1, 0, none⟩)) :: (.pointer (some ⟨w.heap.size + 1 + 1 + 1, 0, none⟩)) :: (.int .i64 (l0.length : Int)) :: undef :: u13 :: u14 :: undef :: undef :: (.slice A0 l0.length c0) :: (.int .i64 a1) :: (.int .i64 a2) :: (.agg #[.slice A0 l0.length c0, .int .i64 a1, .int .i64 a2]) :: (.slice A0 l0.length c0) :: (.int .i64 (l0.length : Int)) :: (.agg #[.slice A0 l0.length c0, .int .i64 a1, .int .i64 a2]) :: (.bool true) :: (.bool false) :: (.bool false) :: (.slice (some ad) l3.length c3) :: (.int .i64 (l3.length : Int)) :: (.int .i64 (l0.length : Int)) :: (.int .i64 ((l0.length : Int) + 1)) :: (.bool false) :: (.bool false) :: (.bool false) :: (.slice (some ad) l3.length c3) :: (.int .i64 (l0.length : Int)) :: (.pointer (some (ad.add l0.length))) :: (.int .i64 y) :: (.bool false) :: (.bool false) :: (.slice (some ad) l3.length c3) :: (.int .i64 (l3.length : Int)) :: (.int .i64 (l3.length : Int)) :: (.bool false) :: u44 :: u45 :: u46 :: u47 :: u48 :: u49 :: u50 :: u51 :: u52 :: (.int .i64 (l0.length : Int)) :: (.int .i64 ((l0.length - m : Nat) : Int)) :: u55 :: u56 :: u57 :: u58 :: u59 :: undef :: undef :: undef :: undef :: undef :: undef :: undef :: undef :: undef :: undef :: undef :: undef :: undef :: u73 :: undef :: undef :: undef :: []), defers := mks Ds }) l0.length ?start ?round
      case start => exact ⟨[], _, _, _, _, _, _, _, Nat.le_refl _, HL, H5, ⟨Opn.nil _, fun D hD => by cases hD⟩, by rw [Nat.sub_self]; rfl⟩
      case round =>
        clear H5 HL
        rintro m _ W ⟨Ds, u14, u55, u56, u57, u58, u59, u73, hm, HQ, HI, HO, rfl⟩
        cases m with
        | zero =>
          have e0 : decide (((l0.length - 0 : Nat) : Int) < (l0.length : Int)) = false := decide_eq_false (by omega)
          have e1 : (((l0.length - 0 : Nat) : Int) < (l0.length : Int)) = False := eq_false (by omega)
          have hl3 := HLEN.out
          obtain ⟨z0, ez, hzc⟩ := Kd.at_int HR3.out 0 (by omega) (by omega)
          obtain rfl := Option.some.inj ez
          rw [show Int.toNat 0 = 0 from rfl, Addr.add_zero'] at hzc
          replace hzc := (HI.out.below.cell (World.block_lt_of_cell? w _ hzc)).trans hzc
          have h7 : W.cell? ⟨w.heap.size, 0, none⟩ = some (.slice (some ad) l3.length c3) := (blk_cell HI.out.i7 0).trans rfl
          have h8 : W.cell? ⟨w.heap.size + 1, 0, none⟩ = some (.int .i64 0) := (blk_cell HI.out.i8 0).trans rfl
          have h9 : W.cell? ⟨w.heap.size + 1 + 1, 0, none⟩ = some (.bool false) := (blk_cell HI.out.i9 0).trans rfl
          have f8 := blk_frozen HI.out.i8 0
          have f9 := blk_frozen HI.out.i9 0
          have q0 : (0 < l3.length) = True := eq_true (by omega)
          have q1 : ((0 : Int) < (l3.length : Int)) = True := eq_true (by omega)
          obtain rfl := Option.some.inj HQ.out
          clear ez hl3
          gi_wp2
          exact bound_end rfl rfl (bd_no HI.out (rd l3 0) true).1 (bd_no HI.out (rd l3 0) true).2.1 (HO.out.1.kept ((KeepsOthers.setCell _ _ _).trans (KeepsOthers.setCell _ _ _))) (bd_no HI.out (rd l3 0) true).2.2 HO.out.2
        | succ m =>
          obtain ⟨ys, hys, hrest⟩ := Option.bind_eq_some_iff.1 (show (certificate_problem_from.l k l0 a1 a2 ((l0.length - (m + 1) : Nat) : Int) (l0.length - (l0.length - (m + 1)))).bind _ = some b from HQ.out)
          obtain ⟨i, hi⟩ : ∃ i, l0.length - (m + 1) = i := ⟨_, rfl⟩
          rw [hi] at hys hrest ⊢
          have HYS := Aside0.mk hys
          have HRE := Aside0.mk hrest
          clear HQ hys hrest
          have hin : i < l0.length := by omega
          have h10 : (W.alloc (.cells #[.int .i64 (i : Int)] 3)).cell? ⟨w.heap.size + 1 + 1 + 1, 0, none⟩ = some (.slice A0 l0.length c0) := (blk_cell (blk_alloc HI.out.i10 _) 0).trans rfl
          have h11 : (W.alloc (.cells #[.int .i64 (i : Int)] 3)).cell? ⟨w.heap.size + 1 + 1 + 1, 1, none⟩ = some (.int .i64 a1) := (blk_cell (blk_alloc HI.out.i10 _) 1).trans rfl
          have h12 : (W.alloc (.cells #[.int .i64 (i : Int)] 3)).cell? ⟨w.heap.size + 1 + 1 + 1, 2, none⟩ = some (.int .i64 a2) := (blk_cell (blk_alloc HI.out.i10 _) 2).trans rfl
          have e0 : decide ((i : Int) < (l0.length : Int)) = true := decide_eq_true (by omega)
          have e1 : ((i : Int) < (l0.length : Int)) = True := eq_true (by omega)
          gi_wp2_with (first | (refine ⟨trivial, ?_⟩; gi_at_call 25; (refine (from_in 7 _ _ _ _ _ _ _).mono ?_); rintro e w' ⟨rfl, rfl⟩))
          clear h10 h11 h12 e0 e1
          have hsz := blk_lt HI.out.i10
          have p14 := blk_alloc (blk_alloc (blk_new W (.cells #[.int .i64 (i : Int)] 3)) (.cells #[.slice A0 l0.length c0, .int .i64 a1, .int .i64 a2] 54)) (.cells #[.int .i64 (i : Int)] 3)
          have pP := blk_alloc (blk_new (W.alloc (.cells #[.int .i64 (i : Int)] 3)) (.cells #[.slice A0 l0.length c0, .int .i64 a1, .int .i64 a2] 54)) (.cells #[.int .i64 (i : Int)] 3)
          have pI := blk_new ((W.alloc (.cells #[.int .i64 (i : Int)] 3)).alloc (.cells #[.slice A0 l0.length c0, .int .i64 a1, .int .i64 a2] 54)) (.cells #[.int .i64 (i : Int)] 3)
          rw [World.size_alloc] at pP
          rw [World.size_alloc, World.size_alloc] at pI
          have p7 := blk_alloc (blk_alloc (blk_alloc HI.out.i7 (.cells #[.int .i64 (i : Int)] 3)) (.cells #[.slice A0 l0.length c0, .int .i64 a1, .int .i64 a2] 54)) (.cells #[.int .i64 (i : Int)] 3)
          have p8 := blk_alloc (blk_alloc (blk_alloc HI.out.i8 (.cells #[.int .i64 (i : Int)] 3)) (.cells #[.slice A0 l0.length c0, .int .i64 a1, .int .i64 a2] 54)) (.cells #[.int .i64 (i : Int)] 3)
          have p9 := blk_alloc (blk_alloc (blk_alloc HI.out.i9 (.cells #[.int .i64 (i : Int)] 3)) (.cells #[.slice A0 l0.length c0, .int .i64 a1, .int .i64 a2] 54)) (.cells #[.int .i64 (i : Int)] 3)
          have p10 := blk_alloc (blk_alloc (blk_alloc HI.out.i10 (.cells #[.int .i64 (i : Int)] 3)) (.cells #[.slice A0 l0.length c0, .int .i64 a1, .int .i64 a2] 54)) (.cells #[.int .i64 (i : Int)] 3)
          have pO : Opn (((W.alloc (.cells #[.int .i64 (i : Int)] 3)).alloc (.cells #[.slice A0 l0.length c0, .int .i64 a1, .int .i64 a2] 54)).alloc (.cells #[.int .i64 (i : Int)] 3)) Ds := ((HO.out.1.kept (KeepsOthers.alloc _ _)).kept (KeepsOthers.alloc _ _)).kept (KeepsOthers.alloc _ _)
          have pB := ((HI.out.below.alloc HI.out.below.size (.cells #[.int .i64 (i : Int)] 3)).alloc (Nat.le_trans HI.out.below.size (by simp)) (.cells #[.slice A0 l0.length c0, .int .i64 a1, .int .i64 a2] 54)).alloc (Nat.le_trans HI.out.below.size (by simp; omega)) (.cells #[.int .i64 (i : Int)] 3)
          have pS : (((W.alloc (.cells #[.int .i64 (i : Int)] 3)).alloc (.cells #[.slice A0 l0.length c0, .int .i64 a1, .int .i64 a2] 54)).alloc (.cells #[.int .i64 (i : Int)] 3)).heap.size = W.heap.size + 3 := by simp
          have hlow := HO.out.2
          have hold := HO.out.1.lt
          clear HI HO
          obtain ⟨b14, hb14⟩ : ∃ b14, W.heap.size = b14 := ⟨_, rfl⟩
          rw [hb14] at p14 pP pI pS hold hsz ⊢
          generalize ((W.alloc (.cells #[.int .i64 (i : Int)] 3)).alloc (.cells #[.slice A0 l0.length c0, .int .i64 a1, .int .i64 a2] 54)).alloc (.cells #[.int .i64 (i : Int)] 3) = W4 at p14 pP pI p7 p8 p9 p10 pO pB pS ⊢
          clear hb14 W
          refine wpIn_rangeFunc_ownG rfl (show 1 ≤ 8 by decide) (gf := 38) (lb := #[.pointer (some ⟨b14 + 1 + 1, 0, none⟩), .pointer (some ⟨b14 + 1, 0, none⟩)]) rfl trivial (enters_of Try.func38 (by kernel_rfl) rfl)
            (from_stops 7 (by decide) (b14 + 1) w.heap.size w rfl (by omega) A0 c0 l0 a1 a2 i hin HC.out h64 k ys HYS.out HR.out W4 pB pP pI) kbK_t (kbK_b (by omega) (by omega)) (Below.refl _ _) (fun _ => rfl)
            (fun pre W' => ((((((W'.heap[w.heap.size]? = some (.cells #[.slice (some ad) l3.length c3] 26 (0, 0)) ∧ W'.heap[w.heap.size + 1]? = some (.cells #[.int .i64 0] 3 (0, 0))) ∧ W'.heap[w.heap.size + 1 + 1]? = some (.cells #[.bool false] 4 (0, 0))) ∧ W'.heap[w.heap.size + 1 + 1 + 1]? = some (.cells #[.slice A0 l0.length c0, .int .i64 a1, .int .i64 a2] 54 (0, 0))) ∧ W'.heap[b14]? = some (.cells #[.int .i64 (i : Int)] 3 (0, 0))) ∧ Opn W' Ds) ∧ Below w.heap.size w W') ∧ (∀ x ∈ pre, certificate_Bound.v l3 (i : Int) (clp l0.length x.1, x.2) = false))
            (fun c pre W' => ((((W'.heap[w.heap.size + 1]? = some (.cells #[.int .i64 0] 3 (0, 0)) ∧ W'.heap[w.heap.size + 1 + 1]? = some (.cells #[.bool false] 4 (0, 0))) ∧ Opn W' Ds) ∧ Below w.heap.size w W') ∧ (c = .ret ∧ ∃ x ∈ pre, certificate_Bound.v l3 (i : Int) (clp l0.length x.1, x.2) = true)))
            ((((((((blk_own _ _ (fun _ => _) _).and (blk_own _ _ (fun _ => _) _)).and (blk_own _ _ (fun _ => _) _)).and (blk_own _ _ (fun _ => _) _)).and (blk_own _ _ (fun _ => _) _)).and (opn_ownFrom _ Ds (fun D hD => by have := hold D hD; omega))).and (ownFrom_below (Nat.le_refl _) (by omega))).and (ownFrom_pure _ (fun pre : List (Int × Int) => ∀ x ∈ pre, certificate_Bound.v l3 (i : Int) (clp l0.length x.1, x.2) = false)))
            (fun c => ((((blk_own _ _ (fun _ => _) _).and (blk_own _ _ (fun _ => _) _)).and (opn_ownFrom _ Ds (fun D hD => by have := hold D hD; omega))).and (ownFrom_below (Nat.le_refl _) (by omega))).and (ownFrom_pure _ (fun pre : List (Int × Int) => c = .ret ∧ ∃ x ∈ pre, certificate_Bound.v l3 (i : Int) (clp l0.length x.1, x.2) = true)))
            ⟨⟨⟨⟨⟨⟨⟨p7, p8⟩, p9⟩, p10⟩, p14⟩, pO⟩, pB⟩, fun x hx => by cases hx⟩
            (fun x => { tmps := List.toArray ((.slice A0 l0.length c0) :: (.int .i64 a1) :: (.int .i64 a2) :: (.slice (some ad) l3.length c3) :: undef :: undef :: undef :: (.pointer (some ⟨w.heap.size, 0, none⟩)) :: (.pointer (some ⟨w.heap.size + 1, 0, none⟩)) :: (.pointer (some ⟨w.heap.size + 1 + 1, 0, none⟩)) :: (.pointer (some ⟨w.heap.size + 1 + 1 + 1, 0, none⟩)) :: (.int .i64 (l0.length : Int)) :: undef :: u13 :: (.pointer (some ⟨b14, 0, none⟩)) :: (.int .i64 (clp l0.length x.1)) :: (.int .i64 x.2) :: (.slice A0 l0.length c0) :: (.int .i64 a1) :: (.int .i64 a2) :: (.agg #[.slice A0 l0.length c0, .int .i64 a1, .int .i64 a2]) :: (.slice A0 l0.length c0) :: (.int .i64 (l0.length : Int)) :: (.agg #[.slice A0 l0.length c0, .int .i64 a1, .int .i64 a2]) :: (.bool true) :: (.bool false) :: (.bool false) :: (.slice (some ad) l3.length c3) :: (.int .i64 (l3.length : Int)) :: (.int .i64 (l0.length : Int)) :: (.int .i64 ((l0.length : Int) + 1)) :: (.bool false) :: (.bool false) :: (.bool false) :: (.slice (some ad) l3.length c3) :: (.int .i64 (l0.length : Int)) :: (.pointer (some (ad.add l0.length))) :: (.int .i64 y) :: (.bool false) :: (.bool false) :: (.slice (some ad) l3.length c3) :: (.int .i64 (l3.length : Int)) :: (.int .i64 (l3.length : Int)) :: (.bool false) :: u44 :: u45 :: u46 :: u47 :: u48 :: u49 :: u50 :: u51 :: u52 :: (.int .i64 (l0.length : Int)) :: (.int .i64 (i : Int)) :: (.bool true) :: (.int .i64 (i : Int)) :: (.agg #[.slice A0 l0.length c0, .int .i64 a1, .int .i64 a2]) :: (.int .i64 (i : Int)) :: (.func (.func 38) #[] #[.pointer (some ⟨b14 + 1 + 1, 0, none⟩), .pointer (some ⟨b14 + 1, 0, none⟩)]) :: (.int .i64 (clp l0.length x.1)) :: (.int .i64 x.2) :: undef :: undef :: undef :: undef :: undef :: undef :: undef :: undef :: undef :: undef :: undef :: u73 :: undef :: undef :: undef :: []), defers := [] }) ?assign ?body ?done ?stop
          case assign =>
            intro l x W K hK
            gi_wp2
            exact hK
          case body =>
            rintro l pre x W ⟨⟨⟨⟨⟨⟨⟨w7, w8⟩, w9⟩, w10⟩, w14⟩, wO⟩, wB⟩, wP⟩ _
            obtain ⟨hj0, hj1⟩ := clp_range l0.length x.1
            obtain ⟨j, hj⟩ : ∃ j : Nat, clp l0.length x.1 = j := ⟨(clp l0.length x.1).toNat, by omega⟩
            have HJ := Aside0.mk hj
            have HP := Aside0.mk wP
            have hl3 := HLEN.out
            rw [hj] at hj0 hj1
            obtain ⟨z1, e1, hzj⟩ := Kd.at_int HR3.out (j : Int) (by omega) (by omega)
            obtain rfl := Option.some.inj e1
            obtain ⟨z2, e2, hzi⟩ := Kd.at_int HR3.out (i : Int) (by omega) (by omega)
            obtain rfl := Option.some.inj e2
            rw [Int.toNat_natCast] at hzj hzi
            replace hzj := (wB.cell (World.block_lt_of_cell? w _ hzj)).trans hzj
            replace hzi := (wB.cell (World.block_lt_of_cell? w _ hzi)).trans hzi
            have c7 : W.cell? ⟨w.heap.size, 0, none⟩ = some (.slice (some ad) l3.length c3) := (blk_cell w7 0).trans rfl
            have c14 : W.cell? ⟨b14, 0, none⟩ = some (.int .i64 (i : Int)) := (blk_cell w14 0).trans rfl
            have c8 : W.cell? ⟨w.heap.size + 1, 0, none⟩ = some (.int .i64 0) := (blk_cell w8 0).trans rfl
            have c9 : W.cell? ⟨w.heap.size + 1 + 1, 0, none⟩ = some (.bool false) := (blk_cell w9 0).trans rfl
            have f8 := blk_frozen w8 0
            have f9 := blk_frozen w9 0
            have qj : (j < l3.length) = True := eq_true (by omega)
            have qi : (i < l3.length) = True := eq_true (by omega)
            have qj' : ((j : Int) < (l3.length : Int)) = True := eq_true (by omega)
            have qi' : ((i : Int) < (l3.length : Int)) = True := eq_true (by omega)
            rw [hj]
            clear hj e1 e2 wP hl3
            gi_wp2
            refine region_quiet_round l (F := Fence.wide) rfl hmx (by kernel_rfl) (by kernel_rfl) ?_
            repeat (gi_big_quiet_step (fail))
            refine wpQuietIn_nil ?_
            intro _ hw'
            obtain ⟨nq, hw''⟩ := hw'
            subst hw''
            have HB14 := Aside0.mk w14
            by_cases hv : rd l3 (i : Int) > wrap64 (x.2 + rd l3 (j : Int))
            · have e3 : decide (rd l3 (i : Int) > wrap64 (x.2 + rd l3 (j : Int))) = true := decide_eq_true hv
              have e4 : decide (wrap64 (x.2 + rd l3 (j : Int)) < rd l3 (i : Int)) = true := decide_eq_true hv
              have HV2 := Aside0.mk hv
              gi_wp2
              have k1 : KeepsOthers W (((W.drewN nq).setCell ⟨w.heap.size + 1, 0, none⟩ (.int .i64 0)).setCell ⟨w.heap.size + 1 + 1, 0, none⟩ (.bool false)) := ((⟨Nat.le_refl _, fun _ _ h _ => h⟩ : KeepsOthers W (W.drewN nq)).trans (KeepsOthers.setCell _ _ _)).trans (KeepsOthers.setCell _ _ _)
              refine ⟨k1.from _, ⟨⟨⟨?_, ?_⟩, wO.kept k1⟩, ((pw_below_drewN wB nq).setCell (p := ⟨w.heap.size + 1, 0, none⟩) (by simp) _).setCell (p := ⟨w.heap.size + 1 + 1, 0, none⟩) (by simp; omega) _⟩, rfl, x, List.mem_append_right _ List.mem_cons_self, ?_⟩
              · exact blk_far (blk_put (blk_drewN w8 nq) 0 _ rfl) (p := ⟨w.heap.size + 1 + 1, 0, none⟩) (show w.heap.size + 1 ≠ w.heap.size + 1 + 1 by omega) _
              · exact blk_put (blk_far (blk_drewN w9 nq) (p := ⟨w.heap.size + 1, 0, none⟩) (show w.heap.size + 1 + 1 ≠ w.heap.size + 1 by omega) _) 0 _ rfl
              · unfold certificate_Bound.v
                rw [HJ.out]
                exact decide_eq_true HV2.out
            · have e3 : decide (rd l3 (i : Int) > wrap64 (x.2 + rd l3 (j : Int))) = false := decide_eq_false hv
              have e4 : decide (wrap64 (x.2 + rd l3 (j : Int)) < rd l3 (i : Int)) = false := decide_eq_false hv
              have HV2 := Aside0.mk (decide_eq_false hv)
              have hv' : rd l3 (i : Int) ≤ wrap64 (x.2 + rd l3 (j : Int)) := by omega
              clear hv
              gi_wp2
              refine ⟨(⟨Nat.le_refl _, fun _ _ h _ => h⟩ : KeepsOthers W (W.drewN nq)).from _, ⟨pw_below_drewN (Below.refl _ _) nq, rfl, rfl⟩, ⟨⟨⟨⟨⟨⟨blk_drewN w7 nq, blk_drewN w8 nq⟩, blk_drewN w9 nq⟩, blk_drewN w10 nq⟩, blk_drewN HB14.out nq⟩, wO.kept (⟨Nat.le_refl _, fun _ _ h _ => h⟩ : KeepsOthers W (W.drewN nq))⟩, pw_below_drewN wB nq⟩, fun y hy => ?_⟩
              rcases List.mem_append.1 hy with hy | hy
              · exact HP.out y hy
              · obtain rfl := List.mem_singleton.1 hy
                unfold certificate_Bound.v
                rw [HJ.out]
                exact HV2.out
          case done =>
            rintro D ys' W hD rfl ⟨⟨⟨⟨⟨⟨⟨w7, w8⟩, w9⟩, w10⟩, w14⟩, wO⟩, wB⟩, wP⟩ hK
            have HNO : Aside0 (certificate_Bound.l k l0 a1 a2 l3 m = some b) := ⟨by
              have h1 := HRE.out
              rwa [if_neg (fun h => by
                obtain ⟨y, hy, hv⟩ := List.any_eq_true.1 h
                have h2 := wP y hy
                have h3 := from_mem HYS.out y hy
                rw [clp_in (by omega) (by omega)] at h2
                rw [show (y.1, y.2) = y from rfl, hv] at h2
                cases h2)] at h1⟩
            have HD := Aside0.mk (wO.cons (w := W) hK (fun h => by have := hold D h; omega))
            have HI := Aside0.mk (show BdI w A0 c0 l0 a1 a2 (some ad) c3 l3 W from ⟨w7, w8, w9, w10, wB⟩)
            clear hK w7 w8 w9 w10 w14 wO wP
            gi_wp2
            rw [show (i : Int) + 1 = ((l0.length - m : Nat) : Int) by omega]
            exact ⟨m, Nat.lt_succ_self m, D :: Ds, _, _, _, _, _, _, _, by omega, HNO, HI, ⟨HD.out, fun D' hD' => (List.mem_cons.1 hD').elim (fun e => by omega) (fun e => hlow D' e)⟩, rfl⟩
          case stop =>
            rintro D c pre W hD ⟨kk, hkk, hpre⟩ ⟨⟨⟨⟨w8, w9⟩, wO⟩, wB⟩, rfl, y, hy, hv⟩ hK
            have HD := Aside0.mk (wO.cons (w := W) hK (fun h => by have := hold D h; omega))
            have hbf : b = false := by
              have h1 := HRE.out
              have h2 := from_sub hpre HYS.out hkk y hy
              have h3 := from_mem HYS.out y h2
              rw [clp_in (by omega) (by omega)] at hv
              rw [if_pos (List.any_eq_true.2 ⟨y, h2, hv⟩)] at h1
              exact (Option.some.inj h1).symm
            subst hbf
            clear hK
            gi_wp2
            exact bound_end rfl rfl w8 w9 HD.out wB (fun D' hD' => (List.mem_cons.1 hD').elim (fun e => by omega) (fun e => hlow D' e))
theorem certificate_Bound.calls (k : Nat) (A0 : Option Addr) (c0 : Nat) (l0 : List S50) (a1 a2 : Int) (A3 : Option Addr) (c3 : Nat) (l3 : List Int) (r1 : Int) (r2 : Bool) (w : World) (hr0 : Kd.C k50 w A0 l0.length l0) (hc0 : l0.length ≤ c0) (hr3 : Kd.C (Kd.int .i64) w A3 l3.length l3) (hc3 : l3.length ≤ c3) (h : certificate_Bound.f k l0 a1 a2 l3 = some (r1, r2)) :
    Calls Try.prog 16 #[.slice A0 l0.length c0, .int .i64 a1, .int .i64 a2, .slice A3 l3.length c3] w fun e w' => e = .returned (.tuple #[.int .i64 r1, .bool r2]) ∧ Below w.heap.size w w' := by
  unfold certificate_Bound.f at h
  by_cases c4 : l0.length ≤ 1000
  case neg => rw [if_neg c4] at h; cases h
  rw [if_pos c4] at h
  obtain ⟨v, hv, h⟩ := Option.bind_eq_some_iff.1 h
  have hm : l0.length ≤ 9223372036854775000 := by omega
  cases v with
  | false =>
    rw [if_neg (by decide)] at h
    simp only [Option.some.injEq, Prod.mk.injEq] at h
    obtain ⟨rfl, rfl⟩ := h
    exact bound_v k A0 c0 l0 a1 a2 A3 c3 l3 w hr0 hc0 hr3 hc3 ⟨hv⟩
  | true =>
    rw [if_pos rfl] at h
    by_cases c1 : l3.length = l0.length + 1
    · rw [if_pos c1] at h
      by_cases c2 : rd l3 (l0.length : Int) = 0
      · rw [if_pos c2] at h
        by_cases c3' : l3.all certificate_Bound.r = true
        · rw [if_pos c3'] at h
          obtain ⟨b, hb, h⟩ := Option.bind_eq_some_iff.1 h
          refine (bound_main k A0 c0 l0 a1 a2 A3 c3 l3 w hr0 hc0 hr3 hc3 ⟨hv⟩ c1 c2 ⟨c3'⟩ c4 b ⟨hb⟩).mono fun e w' ⟨h1, h2⟩ => ⟨?_, h2⟩
          cases b with
          | false =>
            rw [if_neg (by decide)] at h h1
            simp only [Option.some.injEq, Prod.mk.injEq] at h
            obtain ⟨rfl, rfl⟩ := h
            exact h1
          | true =>
            rw [if_pos rfl] at h h1
            simp only [Option.some.injEq, Prod.mk.injEq] at h
            obtain ⟨rfl, rfl⟩ := h
            exact h1
        · rw [if_neg c3'] at h
          simp only [Option.some.injEq, Prod.mk.injEq] at h
          obtain ⟨rfl, rfl⟩ := h
          exact bound_range k A0 c0 l0 a1 a2 A3 c3 l3 w hr0 hc0 hr3 hc3 ⟨hv⟩ c1 c2 ⟨by simpa using c3'⟩ hm
      · rw [if_neg c2] at h
        simp only [Option.some.injEq, Prod.mk.injEq] at h
        obtain ⟨rfl, rfl⟩ := h
        exact bound_last k A0 c0 l0 a1 a2 A3 c3 l3 w hr0 hc0 hr3 hc3 ⟨hv⟩ c1 c2 hm
    · rw [if_neg c1] at h
      simp only [Option.some.injEq, Prod.mk.injEq] at h
      obtain ⟨rfl, rfl⟩ := h
      exact bound_len k A0 c0 l0 a1 a2 A3 c3 l3 w hr0 hc0 hr3 hc3 ⟨hv⟩ c1 hm
end
theorem bound_l_mono (xs : List S50) (wd ind : Int) (ps : List Int) (k : Nat) : ∀ m, LeO (certificate_Bound.l k xs wd ind ps m) (certificate_Bound.l (k + 1) xs wd ind ps m)
  | 0 => LeO.refl _
  | m + 1 => by
    simp only [certificate_Bound.l]
    exact LeO.bind (from_l_mono xs wd ind _ k _) (fun _ => LeO.ite (LeO.refl _) (bound_l_mono xs wd ind ps k m))
theorem certificate_Bound.mono : ∀ a0 a1 a2 a3 k, LeO (certificate_Bound.f k a0 a1 a2 a3) (certificate_Bound.f (k + 1) a0 a1 a2 a3) := by
  intro a0 a1 a2 a3 k
  unfold certificate_Bound.f
  refine LeO.ite ?_ (LeO.refl _)
  refine LeO.bind (certificate_problem_valid.mono _ _ _ _) (fun _ => ?_)
  refine LeO.ite ?_ (LeO.refl _)
  refine LeO.ite ?_ (LeO.refl _)
  refine LeO.ite ?_ (LeO.refl _)
  refine LeO.ite ?_ (LeO.refl _)
  exact LeO.bind (bound_l_mono _ _ _ _ _ _) (fun _ => LeO.refl _)

end Go.Proofs.Ytliegocbkgdhcaa.PB
