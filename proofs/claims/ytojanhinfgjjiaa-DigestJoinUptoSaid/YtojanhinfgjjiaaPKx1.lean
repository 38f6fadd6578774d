-- Written by a program of this place (wip/gen.py) with the kit's print; not trusted: Lean checks it.
import Derived.Test.YtojanhinfgjjiaaPKx0
namespace Go.Proofs.Ytojanhinfgjjiaa.PK
open Go.RowKit Go.Proofs.YtojanhinfgjjiaaW.PrintWords Go.Proofs.YtojanhinfgjjiaaW.PrintLast Go.Proofs.YtojanhinfgjjiaaW.PrintMore
attribute [local go_sem] max2_int min2_int max_two min_two max_three min_three max_four min_four   -- for this text's walks alone
set_option linter.unusedVariables false
set_option linter.unusedSimpArgs false

/-! ### digest_Update: function 13 -/
def digest_Update.l0 : Nat → Int → List Int → Int → Int → Option (Int)
  | 0, _, _, _, _ => none
  | k + 1, x0, x7, x8, x9 => if x9 < x8 then (if 0 ≤ x9 then (if x9 < (x7.length : Int) then (digest_Update.l0 k (IntKind.u64.wrap ((Go.bits .xor .u64 x0 (IntKind.u64.wrap (rd x7 x9))) * 1099511628211)) x7 x8 (wrap64 (x9 + 1))) else (none)) else (none)) else (some x0)
def digest_Update.f (k : Nat) (a0 : Int) (l1 : List Int) : Option (Int) := digest_Update.l0 k a0 l1 (l1.length : Int) 0
theorem digest_Update.mono_l : ∀ k, (∀ y0 y1 y2 y3, LeO (digest_Update.l0 k y0 y1 y2 y3) (digest_Update.l0 (k + 1) y0 y1 y2 y3))
  | 0 => fun _ _ _ _ r h => by simp [digest_Update.l0] at h
  | k + 1 => by
    have ih0 := digest_Update.mono_l k
    · intro y0 y1 y2 y3
      unfold digest_Update.l0
      repeat' first
      | (with_reducible exact ih0 _ _ _ _)
      | (with_reducible exact LeO.refl _)
      | (with_reducible exact LeO.none _)
      | (with_reducible refine LeO.ite ?_ ?_)
      | (with_reducible refine LeO.bind ?_ (fun _ => ?_))
      | exact ih0 _ _ _ _
      | exact LeO.none _
      | refine LeO.ite ?_ ?_
      | refine LeO.bind ?_ (fun _ => ?_)
theorem digest_Update.mono : ∀ a0 a1 k, LeO (digest_Update.f k a0 a1) (digest_Update.f (k + 1) a0 a1) := by
  intro a0 a1 k
  have ih0 := digest_Update.mono_l k
  unfold digest_Update.f
  repeat' first
      | (with_reducible exact ih0 _ _ _ _)
      | (with_reducible exact LeO.refl _)
      | (with_reducible exact LeO.none _)
      | (with_reducible refine LeO.ite ?_ ?_)
      | (with_reducible refine LeO.bind ?_ (fun _ => ?_))
      | exact ih0 _ _ _ _
      | exact LeO.none _
      | refine LeO.ite ?_ ?_
      | refine LeO.bind ?_ (fun _ => ?_)
set_option maxHeartbeats 8000000 in
set_option maxRecDepth 100000 in
theorem digest_Update.calls (k : Nat) (a0 : Int) (A1 : Option Addr) (c1 : Nat) (l1 : List Int) (r : Int) (w : World) (hr1 : Kd.C (Kd.int .u8) w A1 l1.length l1) (hc1 : l1.length ≤ c1) (h : digest_Update.f k a0 l1 = some r) :
    Calls Try.prog 13 #[.int .u64 a0, .slice A1 l1.length c1] w fun e w' => e = .returned (.int .u64 r) ∧ Drawn0 w w' := by
  have HR1 := Aside0.mk hr1
  have HC1 := Aside0.mk hc1
  clear hr1 hc1
  have H : (digest_Update.l0 k a0 l1 (l1.length : Int) 0) = some r := h
  clear h
  have H' := Aside0.mk H
  clear H
  go_enter Try.func13, Try.ntmps13
  go_wp2
  go_loopg [0, 9] k (fun kq v0 v9 w' => ∃ (x0_1 : Int) (x9_1 : Int), v0 = .int .u64 x0_1 ∧ v9 = .int .i64 x9_1 ∧ Aside0 (digest_Update.l0 kq x0_1 l1 (l1.length : Int) x9_1 = some r) ∧ Aside0 (kq ≤ k) ∧ Drawn0 w w')
  case atStart => exact ⟨(a0), (0), (by first | rfl | (simp; done) | (simp [*]; done)), (by first | rfl | (simp; done) | (simp [*]; done)), H', ⟨Nat.le_refl _⟩, by repeat (first | exact Drawn0.refl _ | apply Drawn0.step)⟩
  case round =>
    clear H'
    try clear c1
    try clear p2
    obtain ⟨x0_1, x9_1, rfl, rfl, HA, HK1, ⟨m1, rfl⟩⟩ := hrel
    cases gk with
    | zero => exact absurd HA.out (by simp [digest_Update.l0])
    | succ k1 =>
      have H := HA.out
      clear HA
      simp only [digest_Update.l0] at H
      by_cases c3 : x9_1 < (l1.length : Int)
      · rw [if_pos c3] at H
        have c3b0 : decide (x9_1 < (l1.length : Int)) = true := decide_eq_true c3
        clear c3
        by_cases c4 : 0 ≤ x9_1
        · rw [if_pos c4] at H
          have c4b0 : decide (0 ≤ x9_1) = true := decide_eq_true c4
          clear c4
          by_cases c5 : x9_1 < (l1.length : Int)
          · rw [if_pos c5] at H
            have c5b0 : decide (x9_1 < (l1.length : Int)) = true := decide_eq_true c5
            clear c5
            have H' := Aside0.mk H
            clear H
            have p101 : 0 ≤ (x9_1 : Int) := of_decide_eq_true (by first | (with_reducible assumption) | assumption)
            have q101 : x9_1 < (l1.length : Int) := of_decide_eq_true (by first | (with_reducible assumption) | assumption)
            obtain ⟨ad101, e101, hx101_0⟩ := Kd.at_int HR1.out x9_1 p101 q101
            cases e101
            replace p101 := eq_true p101
            replace q101 := eq_true q101
            go_wp2
            go_roundg k1
            case measure => have := HK1.out; omega
            case rel => exact ⟨(IntKind.u64.wrap ((Go.bits .xor .u64 x0_1 (IntKind.u64.wrap (rd l1 x9_1))) * 1099511628211)), (wrap64 (x9_1 + 1)), (by first | rfl | (simp; done) | (simp [*]; done)), (by first | rfl | (simp; done) | (simp [*]; done)), H', ⟨by have := HK1.out; omega⟩, by repeat (first | exact Drawn0.refl _ | apply Drawn0.step)⟩
          · rw [if_neg c5] at H
            exact absurd H (by simp)
        · rw [if_neg c4] at H
          exact absurd H (by simp)
      · rw [if_neg c3] at H
        have c3b0 : decide (x9_1 < (l1.length : Int)) = false := decide_eq_false c3
        clear c3
        obtain rfl := Option.some.inj H
        go_wp2
        go_ret
        exact ⟨by first | rfl | (simp; done) | (simp [*]; done), by repeat (first | exact Drawn0.refl _ | apply Drawn0.step)⟩

/-! ### digest_Bytes: function 11 -/
def digest_Bytes.f (k : Nat) (l0 : List Int) : Option (Int) := (digest_Update.f k 14695981039346656037 l0).bind fun t102 => (some t102)
theorem digest_Bytes.mono : ∀ a0 k, LeO (digest_Bytes.f k a0) (digest_Bytes.f (k + 1) a0) := by
  intro a0 k
  unfold digest_Bytes.f
  repeat' first
      | (with_reducible exact digest_Update.mono _ _ _)
      | (with_reducible exact LeO.refl _)
      | (with_reducible exact LeO.none _)
      | (with_reducible refine LeO.ite ?_ ?_)
      | (with_reducible refine LeO.bind ?_ (fun _ => ?_))
      | exact digest_Update.mono _ _ _
      | exact LeO.none _
      | refine LeO.ite ?_ ?_
      | refine LeO.bind ?_ (fun _ => ?_)
set_option maxHeartbeats 8000000 in
set_option maxRecDepth 100000 in
theorem digest_Bytes.calls (k : Nat) (A0 : Option Addr) (c0 : Nat) (l0 : List Int) (r : Int) (w : World) (hr0 : Kd.C (Kd.int .u8) w A0 l0.length l0) (hc0 : l0.length ≤ c0) (h : digest_Bytes.f k l0 = some r) :
    Calls Try.prog 11 #[.slice A0 l0.length c0] w fun e w' => e = .returned (.int .u64 r) ∧ Drawn0 w w' := by
  have HR0 := Aside0.mk hr0
  have HC0 := Aside0.mk hc0
  clear hr0 hc0
  have H : ((digest_Update.f k 14695981039346656037 l0).bind fun t102 => (some t102)) = some r := h
  clear h
  replace H := Option.bind_eq_some_iff.mp H
  obtain ⟨t102, A20, H⟩ := H
  replace H : (some t102) = some r := H
  have A2 := Aside0.mk A20
  clear A20
  obtain rfl := Option.some.inj H
  go_enter Try.func11, Try.ntmps11
  go_wp2_with (first | ((with_reducible refine gate_callee (f := 13) rfl ?_); refine goesL_ (some 4) rfl rfl Try.func13 (by kernel_rfl) rfl #[.int .u64 14695981039346656037, .slice A0 l0.length c0] rfl (by (try simp only [List.map_toArray, List.map_cons, List.map_nil]); first | done | rfl | (simp only [List.length_drop, List.length_take]; rfl)) ?_; (with_reducible refine (digest_Update.calls k 14695981039346656037 _ _ l0 t102 _ ?side1 ?side2 A2.out).mono ?_); (case side1 => repeat (first | exact HR0.out | (with_reducible refine Kd.C_alloc ?_ _) | (with_reducible refine Kd.C_drewN ?_ _) | (with_reducible refine Kd.C_drew ?_))); (case side2 => exact HC0.out); rintro e w' ⟨rfl, ⟨nd, rfl⟩⟩; refine ⟨_, rfl, ?_⟩))
  go_ret
  exact ⟨by first | rfl | (simp; done) | (simp [*]; done), by repeat (first | exact Drawn0.refl _ | apply Drawn0.step)⟩

/-! ### vinculumlaw04_awake: function 10, by hand -/
def vinculumlaw04_awake.f (k : Nat)  : Option (Bool) := (digest_Bytes.f k (([97] : List Int))).bind fun t106 => (some (t106 == 12638187200555641996))
theorem vinculumlaw04_awake.mono : ∀ k, LeO (vinculumlaw04_awake.f k ) (vinculumlaw04_awake.f (k + 1) ) := by
  intro k
  unfold vinculumlaw04_awake.f
  exact LeO.bind (digest_Bytes.mono _ _) (fun _ => LeO.refl _)
set_option maxHeartbeats 800000 in
set_option maxRecDepth 100000 in
theorem vinculumlaw04_awake.calls (k : Nat)  (r : Bool) (w : World) (h : vinculumlaw04_awake.f k  = some r) :
    Calls Try.prog 10 #[] w fun e w' => e = .returned (.bool r) ∧ Below w.heap.size w w' := by
  unfold vinculumlaw04_awake.f at h
  obtain ⟨t106, A1, hr⟩ := Option.bind_eq_some_iff.mp h
  clear h
  obtain rfl := Option.some.inj hr
  clear hr
  have A1 := Aside0.mk A1
  have kc := fun (w : World) (C : Array Value) (n c : Nat) => Lib.run_convert_bytes_const (P := Try.prog) w 23 5 C n c Try.underlying23 Try.underlying5
  go_enter Try.func10, Try.ntmps10
  go_wp2_with (go_at_call 11; refine (digest_Bytes.calls k _ _ [97] t106 _ ?side1 ?side2 A1.out).mono ?_; (case side1 => exact Kd.C_of_reads (d := (0 : Int)) (readsInt_of.1 ⟨rfl, by decide, fun _ => ⟨_, rfl, fun j hj => by obtain rfl : j = 0 := (by simp only [List.length_cons, List.length_nil] at hj; omega); simp only [add_plain]; exact World.cell?_alloc_mark _ _ _ _ _⟩⟩)); (case side2 => exact Nat.le_refl _); rintro e w' ⟨rfl, ⟨nd, rfl⟩⟩)
  go_ret
  exact ⟨rfl, by repeat (first | exact Below.refl _ _ | apply below_alloc | apply pw_below_drewN)⟩

/-! ### digest_number: function 22 -/
def digest_number.l0 : Nat → List Int → Int → Int → Option (List Int)
  | 0, _, _, _ => none
  | k + 1, x0, x1, x5 => if x5 ≥ 0 then (if 0 ≤ x5 then (if x0.length < 140737488355328 then (digest_number.l0 k (x0 ++ [(shr .u64 x1 x5) % 256]) x1 (wrap64 (x5 - 8))) else (none)) else (none)) else (some x0)
def digest_number.f (k : Nat) (l0 : List Int) (a1 : Int) : Option (List Int) := digest_number.l0 k l0 a1 56
theorem digest_number.mono_l : ∀ k, (∀ y0 y1 y2, LeO (digest_number.l0 k y0 y1 y2) (digest_number.l0 (k + 1) y0 y1 y2))
  | 0 => fun _ _ _ r h => by simp [digest_number.l0] at h
  | k + 1 => by
    have ih0 := digest_number.mono_l k
    · intro y0 y1 y2
      unfold digest_number.l0
      repeat' first
      | (with_reducible exact ih0 _ _ _)
      | (with_reducible exact LeO.refl _)
      | (with_reducible exact LeO.none _)
      | (with_reducible refine LeO.ite ?_ ?_)
      | (with_reducible refine LeO.bind ?_ (fun _ => ?_))
      | exact ih0 _ _ _
      | exact LeO.none _
      | refine LeO.ite ?_ ?_
      | refine LeO.bind ?_ (fun _ => ?_)
theorem digest_number.mono : ∀ a0 a1 k, LeO (digest_number.f k a0 a1) (digest_number.f (k + 1) a0 a1) := by
  intro a0 a1 k
  have ih0 := digest_number.mono_l k
  unfold digest_number.f
  repeat' first
      | (with_reducible exact ih0 _ _ _)
      | (with_reducible exact LeO.refl _)
      | (with_reducible exact LeO.none _)
      | (with_reducible refine LeO.ite ?_ ?_)
      | (with_reducible refine LeO.bind ?_ (fun _ => ?_))
      | exact ih0 _ _ _
      | exact LeO.none _
      | refine LeO.ite ?_ ?_
      | refine LeO.bind ?_ (fun _ => ?_)
set_option maxHeartbeats 8000000 in
set_option maxRecDepth 100000 in
theorem digest_number.calls (k : Nat) (P0_ : Nat → Prop) (u9000_ : Value) (l0 : List Int) (a1 : Int) (r : List Int) (w0 w : World) (hB : Below w0.heap.size w0 w) (ho0 : Kd.R (Kd.int .u8) 5 w w0.heap.size P0_ u9000_ l0) (h : digest_number.f k l0 a1 = some r) :
    Calls Try.prog 22 #[u9000_, .int .u64 a1] w fun e w' => ∃ v0_ : Value, e = .returned (v0_) ∧ Kd.R (Kd.int .u8) 5 w' w0.heap.size (fun k_ => (P0_ k_ ∨ w.heap.size ≤ k_)) v0_ r ∧ Below w0.heap.size w0 w' ∧ Kept w w' (fun k_ => P0_ k_) := by
  have HO0 := Aside0.mk (show Kd.R (Kd.int .u8) 5 w w0.heap.size (fun k_ => (P0_ k_ ∨ w.heap.size ≤ k_)) u9000_ l0 from Kd.R_mono ho0 (fun k_ hk => (.inl hk)))
  have HK := Aside0.mk (Kept.refl w (fun k_ => P0_ k_))
  have HW0 := Aside0.mk hB.size
  have HB := Aside0.mk hB
  clear hB
  have H : (digest_number.l0 k l0 a1 56) = some r := h
  clear h
  have H' := Aside0.mk H
  clear H
  go_enter Try.func22, Try.ntmps22
  go_wp2
  go_loopg [0, 5] k (fun kq v0 v5 w' => ∃ (x0_1 : List Int) (x5_1 : Int), v5 = .int .i64 x5_1 ∧ Aside0 (digest_number.l0 kq x0_1 a1 x5_1 = some r) ∧ Aside0 (kq ≤ k) ∧ Aside0 (Kd.R (Kd.int .u8) 5 w' w0.heap.size (fun k_ => (P0_ k_ ∨ w.heap.size ≤ k_)) v0 x0_1) ∧ Aside0 (Kept w w' (fun k_ => P0_ k_)) ∧ Aside0 (Below w0.heap.size w0 w'))
  case atStart => exact ⟨(l0), (56), (by first | rfl | (simp; done) | (simp [*]; done)), H', ⟨Nat.le_refl _⟩, ⟨by (with_reducible repeat (first | apply Kd.R_alloc | apply Kd.R_drewN | apply Kd.R_drew)); exact HO0.out⟩, ⟨by repeat (first | (with_reducible first | exact HK.out | apply Kept.alloc | apply Kept.drewN | apply Kept.drew) | exact HK.out)⟩, ⟨by repeat (first | (with_reducible first | exact HB.out | apply below_alloc | apply pw_below_drewN | apply below_drew1) | exact HB.out)⟩⟩
  case round =>
    clear H'
    try clear c2
    try clear p2
    obtain ⟨x0_1, x5_1, rfl, HA, HK1, HO_0, HK, HB⟩ := hrel
    cases gk with
    | zero => exact absurd HA.out (by simp [digest_number.l0])
    | succ k1 =>
      have H := HA.out
      clear HA
      simp only [digest_number.l0] at H
      by_cases c3 : x5_1 ≥ 0
      · rw [if_pos c3] at H
        have c3b0 : decide (0 ≤ x5_1) = true := decide_eq_true c3
        clear c3
        by_cases c4 : 0 ≤ x5_1
        · rw [if_pos c4] at H
          have c4b0 := eq_true c4
          have c4b1 : decide (0 ≤ x5_1) = true := decide_eq_true c4
          clear c4
          obtain ⟨ji5, hji5⟩ : ∃ j_ : Int, (shr .u64 a1 x5_1) = j_ := ⟨_, rfl⟩
          replace H : (if x0_1.length < 140737488355328 then (digest_number.l0 k1 (x0_1 ++ [(ji5) % 256]) a1 (wrap64 (x5_1 - 8))) else (none)) = some r := by first | (rw [hji5] at H; exact H) | (simp only [hji5] at H ⊢; exact H)
          have hji5_ : (a1 / 2 ^ min x5_1.toNat 64) = ji5 := hji5
          have hji5z : x5_1 ≤ 64 → (a1 / 2 ^ x5_1.toNat) = ji5 := shr_small hji5
          by_cases c6 : x0_1.length < 140737488355328
          · rw [if_pos c6] at H
            have LMc6 := Aside0.mk c6
            clear c6
            obtain ⟨y103, hy103⟩ : ∃ y_ : List Int, y_ = (x0_1 ++ [(ji5) % 256]) := ⟨_, rfl⟩
            replace H : (digest_number.l0 k1 y103 a1 (wrap64 (x5_1 - 8))) = some r := by first | (rw [hy103]; with_reducible exact H) | (have H2_ := (Option.bind_some _ _).symm.trans H; rw [hy103]; with_reducible exact H2_) | (have H2_ := (Option.bind_some _ _).symm.trans H; with_reducible exact H2_) | with_reducible exact H | (rw [hy103]; exact H) | exact H
            have Ny103 := Aside0.mk hy103
            clear hy103
            have H' := Aside0.mk H
            clear H
            go_wp2_with (first | ((with_reducible refine gate_builtin (b := .append) (xs := #[.tmp 10, .tmp 15]) rfl ?_); at_builtin; refine Kd.R_append (Kd.int .u8) (w0 := w0) w0.heap.size rfl (.tmp 10) (.tmp 15) 23 5 (.int .u8 0) 1 rfl Try.underlying23 info5 rfl (by decide) (by omega) u0 x0_1 ((ji5) % 256) [.int .u8 ((ji5) % 256)] (fun k_ => (P0_ k_ ∨ w.heap.size ≤ k_)) (fun _ => False) rfl rfl ?aP (fun _ hk => hk.elim) ?aF ?aO ?aB ?aS ?aL ?_; (case aP => exact rfl); (case aB => exact (by repeat (first | (with_reducible first | exact HB.out | apply below_alloc | apply pw_below_drewN | apply below_drew1) | exact HB.out))); (case aF => exact (fun k_ hk => (.inr (Nat.le_trans (by first | exact HK.out.1 | exact (show Kept w _ (fun k_ => P0_ k_) from by repeat (first | (with_reducible first | exact HK.out | apply Kept.alloc | apply Kept.drewN | apply Kept.drew) | exact HK.out)).1) hk)))); (case aO => exact (by (with_reducible repeat (first | apply Kd.R_alloc | apply Kd.R_drewN | apply Kd.R_drew)); exact HO_0.out)); (case aS => exact (below_size (by repeat (first | (with_reducible first | exact HB.out | apply below_alloc | apply pw_below_drewN | apply below_drew1) | exact HB.out)))); (case aL => have := LMc6.out; omega); intro v104 w7 ho hb hg hat; rw [← Ny103.out] at ho; have n0_ := Aside0.mk (hb); have n1_ := Aside0.mk (Kept.of_grown (S := (fun k_ => P0_ k_)) hg (by repeat (first | (with_reducible first | exact HK.out | apply Kept.alloc | apply Kept.drewN | apply Kept.drew) | exact HK.out)) (fun k_ e_ => (HO_0.out.1 k_ e_))); have n2_ := Aside0.mk (ho); clear HB; clear HK; clear HO_0; have HB := n0_; have HK := n1_; have HO105 := n2_; clear n0_ n1_ n2_; clear ho hb hg hat))
            go_roundg k1
            case measure => have := HK1.out; omega
            case rel => exact ⟨(y103), (wrap64 (x5_1 - 8)), (by first | rfl | (simp; done) | (simp [*]; done)), H', ⟨by have := HK1.out; omega⟩, ⟨by (with_reducible repeat (first | apply Kd.R_alloc | apply Kd.R_drewN | apply Kd.R_drew)); exact HO105.out⟩, ⟨by repeat (first | (with_reducible first | exact HK.out | apply Kept.alloc | apply Kept.drewN | apply Kept.drew) | exact HK.out)⟩, ⟨by repeat (first | (with_reducible first | exact HB.out | apply below_alloc | apply pw_below_drewN | apply below_drew1) | exact HB.out)⟩⟩
          · rw [if_neg c6] at H
            exact absurd H (by simp)
        · rw [if_neg c4] at H
          exact absurd H (by simp)
      · rw [if_neg c3] at H
        have c3b0 : decide (0 ≤ x5_1) = false := decide_eq_false c3
        clear c3
        obtain rfl := Option.some.inj H
        go_wp2
        go_ret
        exact ⟨_, by first | rfl | (simp [errW_none, errW_some] <;> rfl) | (simp [*, errW_none, errW_some] <;> rfl), by (with_reducible repeat (first | apply Kd.R_alloc | apply Kd.R_drewN | apply Kd.R_drew)); exact HO_0.out, by repeat (first | (with_reducible first | exact HB.out | apply below_alloc | apply pw_below_drewN | apply below_drew1) | exact HB.out), by repeat (first | (with_reducible first | exact HK.out | apply Kept.alloc | apply Kept.drewN | apply Kept.drew) | exact HK.out)⟩

/-! ### digest_Join: function 15 -/
def digest_Join.l0 : Nat → List Int → List Int → Int → Int → Option (Int)
  | 0, _, _, _, _ => none
  | k + 1, x9, x32, x33, x34 => if x34 < x33 then (if 0 ≤ x34 then (if x34 < (x32.length : Int) then ((digest_number.f k x9 (rd x32 x34)).bind fun t122 => (digest_Join.l0 k t122 x32 x33 (wrap64 (x34 + 1)))) else (none)) else (none)) else ((digest_Bytes.f k x9).bind fun t125 => (some t125))
def digest_Join.f (k : Nat) (a0 : Int) (a1 : ByteArray) (a2 : Int) (l3 : List Int) : Option (Int) := (digest_number.f k ([] : List Int) (IntKind.u64.wrap (a0))).bind fun t106 => ((digest_number.f k t106 (IntKind.u64.wrap ((a1.size : Int)))).bind fun t109 => (if t109.length + a1.size < 140737488355328 then ((digest_number.f k (t109 ++ bytesOf a1) (IntKind.u64.wrap (a2))).bind fun t115 => ((digest_number.f k t115 (IntKind.u64.wrap ((l3.length : Int)))).bind fun t118 => (digest_Join.l0 k t118 l3 (l3.length : Int) 0))) else (none)))
theorem digest_Join.mono_l : ∀ k, (∀ y0 y1 y2 y3, LeO (digest_Join.l0 k y0 y1 y2 y3) (digest_Join.l0 (k + 1) y0 y1 y2 y3))
  | 0 => fun _ _ _ _ r h => by simp [digest_Join.l0] at h
  | k + 1 => by
    have ih0 := digest_Join.mono_l k
    · intro y0 y1 y2 y3
      unfold digest_Join.l0
      repeat' first
      | (with_reducible exact ih0 _ _ _ _)
      | (with_reducible exact digest_Bytes.mono _ _)
      | (with_reducible exact digest_number.mono _ _ _)
      | (with_reducible exact LeO.refl _)
      | (with_reducible exact LeO.none _)
      | (with_reducible refine LeO.ite ?_ ?_)
      | (with_reducible refine LeO.bind ?_ (fun _ => ?_))
      | exact ih0 _ _ _ _
      | exact digest_Bytes.mono _ _
      | exact digest_number.mono _ _ _
      | exact LeO.none _
      | refine LeO.ite ?_ ?_
      | refine LeO.bind ?_ (fun _ => ?_)
theorem digest_Join.mono : ∀ a0 a1 a2 a3 k, LeO (digest_Join.f k a0 a1 a2 a3) (digest_Join.f (k + 1) a0 a1 a2 a3) := by
  intro a0 a1 a2 a3 k
  have ih0 := digest_Join.mono_l k
  unfold digest_Join.f
  repeat' first
      | (with_reducible exact ih0 _ _ _ _)
      | (with_reducible exact digest_Bytes.mono _ _)
      | (with_reducible exact digest_number.mono _ _ _)
      | (with_reducible exact LeO.refl _)
      | (with_reducible exact LeO.none _)
      | (with_reducible refine LeO.ite ?_ ?_)
      | (with_reducible refine LeO.bind ?_ (fun _ => ?_))
      | exact ih0 _ _ _ _
      | exact digest_Bytes.mono _ _
      | exact digest_number.mono _ _ _
      | exact LeO.none _
      | refine LeO.ite ?_ ?_
      | refine LeO.bind ?_ (fun _ => ?_)
set_option maxHeartbeats 8000000 in
set_option maxRecDepth 100000 in
theorem digest_Join.calls (k : Nat) (a0 : Int) (a1 : ByteArray) (a2 : Int) (A3 : Option Addr) (c3 : Nat) (l3 : List Int) (r : Int) (w : World) (hr3 : Kd.C (Kd.int .u64) w A3 l3.length l3) (hc3 : l3.length ≤ c3) (h : digest_Join.f k a0 a1 a2 l3 = some r) :
    Calls Try.prog 15 #[.int .i64 a0, .string a1, .int .i64 a2, .slice A3 l3.length c3] w fun e w' => e = .returned (.int .u64 r) ∧ Below w.heap.size w w' := by
  have HR3 := Aside0.mk hr3
  have HC3 := Aside0.mk hc3
  clear hr3 hc3
  have HB := Aside0.mk (Below.refl w.heap.size w)
  have H : ((digest_number.f k ([] : List Int) (IntKind.u64.wrap (a0))).bind fun t106 => ((digest_number.f k t106 (IntKind.u64.wrap ((a1.size : Int)))).bind fun t109 => (if t109.length + a1.size < 140737488355328 then ((digest_number.f k (t109 ++ bytesOf a1) (IntKind.u64.wrap (a2))).bind fun t115 => ((digest_number.f k t115 (IntKind.u64.wrap ((l3.length : Int)))).bind fun t118 => (digest_Join.l0 k t118 l3 (l3.length : Int) 0))) else (none)))) = some r := h
  clear h
  replace H := Option.bind_eq_some_iff.mp H
  obtain ⟨t106, A50, H⟩ := H
  replace H : ((digest_number.f k t106 (IntKind.u64.wrap ((a1.size : Int)))).bind fun t109 => (if t109.length + a1.size < 140737488355328 then ((digest_number.f k (t109 ++ bytesOf a1) (IntKind.u64.wrap (a2))).bind fun t115 => ((digest_number.f k t115 (IntKind.u64.wrap ((l3.length : Int)))).bind fun t118 => (digest_Join.l0 k t118 l3 (l3.length : Int) 0))) else (none))) = some r := H
  have A5 := Aside0.mk A50
  clear A50
  replace H := Option.bind_eq_some_iff.mp H
  obtain ⟨t109, A60, H⟩ := H
  replace H : (if t109.length + a1.size < 140737488355328 then ((digest_number.f k (t109 ++ bytesOf a1) (IntKind.u64.wrap (a2))).bind fun t115 => ((digest_number.f k t115 (IntKind.u64.wrap ((l3.length : Int)))).bind fun t118 => (digest_Join.l0 k t118 l3 (l3.length : Int) 0))) else (none)) = some r := H
  have A6 := Aside0.mk A60
  clear A60
  by_cases c7 : t109.length + a1.size < 140737488355328
  · rw [if_pos c7] at H
    have LMc7 := Aside0.mk c7
    clear c7
    obtain ⟨y112, hy112⟩ : ∃ y_ : List Int, y_ = (t109 ++ bytesOf a1) := ⟨_, rfl⟩
    replace H : ((digest_number.f k y112 (IntKind.u64.wrap (a2))).bind fun t115 => ((digest_number.f k t115 (IntKind.u64.wrap ((l3.length : Int)))).bind fun t118 => (digest_Join.l0 k t118 l3 (l3.length : Int) 0))) = some r := by first | (rw [hy112]; with_reducible exact H) | (have H2_ := (Option.bind_some _ _).symm.trans H; rw [hy112]; with_reducible exact H2_) | (have H2_ := (Option.bind_some _ _).symm.trans H; with_reducible exact H2_) | with_reducible exact H | (rw [hy112]; exact H) | exact H
    have Ny112 := Aside0.mk hy112
    clear hy112
    replace H := Option.bind_eq_some_iff.mp H
    obtain ⟨t115, A80, H⟩ := H
    replace H : ((digest_number.f k t115 (IntKind.u64.wrap ((l3.length : Int)))).bind fun t118 => (digest_Join.l0 k t118 l3 (l3.length : Int) 0)) = some r := H
    have A8 := Aside0.mk A80
    clear A80
    replace H := Option.bind_eq_some_iff.mp H
    obtain ⟨t118, A90, H⟩ := H
    replace H : (digest_Join.l0 k t118 l3 (l3.length : Int) 0) = some r := H
    have A9 := Aside0.mk A90
    clear A90
    have H' := Aside0.mk H
    clear H
    go_enter Try.func15, Try.ntmps15
    go_wp2_with (first | ((with_reducible refine gate_callee (f := 22) rfl ?_); refine goesL_ (some 14) rfl rfl Try.func22 (by kernel_rfl) rfl #[.slice none 0 0, .int .u64 (IntKind.u64.wrap (a0))] rfl (by (try simp only [List.map_toArray, List.map_cons, List.map_nil]); first | done | rfl | (simp only [List.length_drop, List.length_take]; rfl)) ?_; (refine (digest_number.calls k (fun k_ => some k_ = (.slice none 0 0 : Value).ownBlock) (.slice none 0 0) ([] : List Int) (IntKind.u64.wrap (a0)) t106 w _ ?side1 ?side2 A5.out).mono ?_); (case side1 => repeat (first | (with_reducible first | exact HB.out | apply below_alloc | apply pw_below_drewN | apply below_drew1) | exact HB.out)); (case side2 => exact Kd.R_nil _ _ _ _ _); rintro e w10 ⟨v107, rfl, ho0, hb, hkp⟩; refine ⟨_, rfl, ?_⟩; have n0_ := Aside0.mk (Kd.R_mono (ok' := fun k_ => True) ho0 (fun k_ hk_ => trivial)); have n1_ := Aside0.mk (hb); clear HB; have HO108 := n0_; have HB := n1_; clear n0_ n1_; (try clear hb); (try clear hkp); (try clear ho0); obtain ⟨Ao11, co11, eo11⟩ := Kd.R_slice HO108.out; subst eo11) | ((with_reducible refine gate_callee (f := 22) rfl ?_); refine goesL_ (some 19) rfl rfl Try.func22 (by kernel_rfl) rfl #[.slice Ao11 t106.length co11, .int .u64 (IntKind.u64.wrap ((a1.size : Int)))] rfl (by (try simp only [List.map_toArray, List.map_cons, List.map_nil]); first | done | rfl | (simp only [List.length_drop, List.length_take]; rfl)) ?_; (with_reducible refine (digest_number.calls k (fun k_ => some k_ = (.slice Ao11 t106.length co11 : Value).ownBlock) (.slice Ao11 t106.length co11) t106 (IntKind.u64.wrap ((a1.size : Int))) t109 w _ ?side1 ?side2 A6.out).mono ?_); (case side1 => repeat (first | (with_reducible first | exact HB.out | apply below_alloc | apply pw_below_drewN | apply below_drew1) | exact HB.out)); (case side2 => exact Kd.R_tight rfl HO108.out); rintro e w12 ⟨v110, rfl, ho0, hb, hkp⟩; refine ⟨_, rfl, ?_⟩; have n0_ := Aside0.mk (Kd.R_mono (ok' := fun k_ => True) ho0 (fun k_ hk_ => trivial)); have n1_ := Aside0.mk (hb); clear HB; clear HO108; have HO111 := n0_; have HB := n1_; clear n0_ n1_; (try clear hb); (try clear hkp); (try clear ho0)) | (at_builtin; refine Kd.R_append_str (w0 := w) w.heap.size rfl (.tmp 20) _ 23 9 5 rfl Try.underlying23 Try.underlying9 info5 v110 t109 a1 (fun _ => True) rfl rfl ?aO ?aF ?aB ?aS ?aL ?_; (case aB => exact (by repeat (first | (with_reducible first | exact HB.out | apply below_alloc | apply pw_below_drewN | apply below_drew1) | exact HB.out))); (case aF => exact (fun _ _ => trivial)); (case aO => exact (by (with_reducible repeat (first | apply Kd.R_alloc | apply Kd.R_drewN | apply Kd.R_drew)); exact HO111.out)); (case aS => exact (below_size (by repeat (first | (with_reducible first | exact HB.out | apply below_alloc | apply pw_below_drewN | apply below_drew1) | exact HB.out)))); (case aL => have := LMc7.out; omega); intro v113 w13 ho hb hg hat; rw [← Ny112.out] at ho; have n0_ := Aside0.mk (hb); have n1_ := Aside0.mk (ho); clear HB; clear HO111; have HB := n0_; have HO114 := n1_; clear n0_ n1_; clear ho hb hg hat; obtain ⟨Ao14, co14, eo14⟩ := Kd.R_slice HO114.out; subst eo14) | ((with_reducible refine gate_callee (f := 22) rfl ?_); refine goesL_ (some 26) rfl rfl Try.func22 (by kernel_rfl) rfl #[.slice Ao14 y112.length co14, .int .u64 (IntKind.u64.wrap (a2))] rfl (by (try simp only [List.map_toArray, List.map_cons, List.map_nil]); first | done | rfl | (simp only [List.length_drop, List.length_take]; rfl)) ?_; (with_reducible refine (digest_number.calls k (fun k_ => some k_ = (.slice Ao14 y112.length co14 : Value).ownBlock) (.slice Ao14 y112.length co14) y112 (IntKind.u64.wrap (a2)) t115 w _ ?side1 ?side2 A8.out).mono ?_); (case side1 => repeat (first | (with_reducible first | exact HB.out | apply below_alloc | apply pw_below_drewN | apply below_drew1) | exact HB.out)); (case side2 => exact Kd.R_tight rfl HO114.out); rintro e w15 ⟨v116, rfl, ho0, hb, hkp⟩; refine ⟨_, rfl, ?_⟩; have n0_ := Aside0.mk (Kd.R_mono (ok' := fun k_ => True) ho0 (fun k_ hk_ => trivial)); have n1_ := Aside0.mk (hb); clear HB; clear HO114; have HO117 := n0_; have HB := n1_; clear n0_ n1_; (try clear hb); (try clear hkp); (try clear ho0); obtain ⟨Ao16, co16, eo16⟩ := Kd.R_slice HO117.out; subst eo16) | ((with_reducible refine gate_callee (f := 22) rfl ?_); refine goesL_ (some 31) rfl rfl Try.func22 (by kernel_rfl) rfl #[.slice Ao16 t115.length co16, .int .u64 (IntKind.u64.wrap ((l3.length : Int)))] rfl (by (try simp only [List.map_toArray, List.map_cons, List.map_nil]); first | done | rfl | (simp only [List.length_drop, List.length_take]; rfl)) ?_; (with_reducible refine (digest_number.calls k (fun k_ => some k_ = (.slice Ao16 t115.length co16 : Value).ownBlock) (.slice Ao16 t115.length co16) t115 (IntKind.u64.wrap ((l3.length : Int))) t118 w _ ?side1 ?side2 A9.out).mono ?_); (case side1 => repeat (first | (with_reducible first | exact HB.out | apply below_alloc | apply pw_below_drewN | apply below_drew1) | exact HB.out)); (case side2 => exact Kd.R_tight rfl HO117.out); rintro e w17 ⟨v119, rfl, ho0, hb, hkp⟩; refine ⟨_, rfl, ?_⟩; have n0_ := Aside0.mk (Kd.R_mono (ok' := fun k_ => True) ho0 (fun k_ hk_ => trivial)); have n1_ := Aside0.mk (hb); clear HB; clear HO117; have HO120 := n0_; have HB := n1_; clear n0_ n1_; (try clear hb); (try clear hkp); (try clear ho0)))
    go_loopg [9, 34] k (fun kq v9 v34 w' => ∃ (x9_1 : List Int) (x34_1 : Int), v34 = .int .i64 x34_1 ∧ Aside0 (digest_Join.l0 kq x9_1 l3 (l3.length : Int) x34_1 = some r) ∧ Aside0 (kq ≤ k) ∧ Aside0 (Kd.R (Kd.int .u8) 5 w' w.heap.size (fun _ => True) v9 x9_1) ∧ Aside0 (Below w.heap.size w w'))
    case atStart => exact ⟨(t118), (0), (by first | rfl | (simp; done) | (simp [*]; done)), H', ⟨Nat.le_refl _⟩, ⟨by (with_reducible repeat (first | apply Kd.R_alloc | apply Kd.R_drewN | apply Kd.R_drew)); exact HO120.out⟩, ⟨by repeat (first | (with_reducible first | exact HB.out | apply below_alloc | apply pw_below_drewN | apply below_drew1) | exact HB.out)⟩⟩
    case round =>
      clear H'
      try clear c1
      try clear c2
      try clear p2
      try clear c3
      try clear c7
      try clear c15
      obtain ⟨x9_1, x34_1, rfl, HA, HK1, HO_9, HB⟩ := hrel
      cases gk with
      | zero => exact absurd HA.out (by simp [digest_Join.l0])
      | succ k1 =>
        have H := HA.out
        clear HA
        simp only [digest_Join.l0] at H
        by_cases c18 : x34_1 < (l3.length : Int)
        · rw [if_pos c18] at H
          have c18b0 : decide (x34_1 < (l3.length : Int)) = true := decide_eq_true c18
          clear c18
          by_cases c19 : 0 ≤ x34_1
          · rw [if_pos c19] at H
            have c19b0 : decide (0 ≤ x34_1) = true := decide_eq_true c19
            clear c19
            by_cases c20 : x34_1 < (l3.length : Int)
            · rw [if_pos c20] at H
              have c20b0 : decide (x34_1 < (l3.length : Int)) = true := decide_eq_true c20
              clear c20
              replace H := Option.bind_eq_some_iff.mp H
              obtain ⟨t122, A210, H⟩ := H
              replace H : (digest_Join.l0 k1 t122 l3 (l3.length : Int) (wrap64 (x34_1 + 1))) = some r := H
              have A21 := Aside0.mk A210
              clear A210
              have H' := Aside0.mk H
              clear H
              have p121 : 0 ≤ (x34_1 : Int) := of_decide_eq_true (by first | (with_reducible assumption) | assumption)
              have q121 : x34_1 < (l3.length : Int) := of_decide_eq_true (by first | (with_reducible assumption) | assumption)
              obtain ⟨ad121, e121, hx121_0⟩ := Kd.at_int HR3.out x34_1 p121 q121
              cases e121
              replace hx121_0 := (HB.out.cell (World.block_lt_of_cell? w _ hx121_0)).trans hx121_0
              replace p121 := eq_true p121
              replace q121 := eq_true q121
              obtain ⟨Ao22, co22, eo22⟩ := Kd.R_slice HO_9.out
              subst eo22
              go_wp2_with (first | ((with_reducible refine gate_callee (f := 22) rfl ?_); refine goesL_ (some 40) rfl rfl Try.func22 (by kernel_rfl) rfl #[.slice Ao22 x9_1.length co22, .int .u64 (rd l3 x34_1)] rfl (by (try simp only [List.map_toArray, List.map_cons, List.map_nil]); first | done | rfl | (simp only [List.length_drop, List.length_take]; rfl)) ?_; (with_reducible refine (digest_number.calls k1 (fun k_ => some k_ = (.slice Ao22 x9_1.length co22 : Value).ownBlock) (.slice Ao22 x9_1.length co22) x9_1 (rd l3 x34_1) t122 w _ ?side1 ?side2 A21.out).mono ?_); (case side1 => repeat (first | (with_reducible first | exact HB.out | apply below_alloc | apply pw_below_drewN | apply below_drew1) | exact HB.out)); (case side2 => exact Kd.R_tight rfl HO_9.out); rintro e w23 ⟨v123, rfl, ho0, hb, hkp⟩; refine ⟨_, rfl, ?_⟩; have n0_ := Aside0.mk (Kd.R_mono (ok' := fun k_ => True) ho0 (fun k_ hk_ => trivial)); have n1_ := Aside0.mk (hb); clear HB; clear HO_9; have HO124 := n0_; have HB := n1_; clear n0_ n1_; (try clear hb); (try clear hkp); (try clear ho0)))
              go_roundg k1
              case measure => have := HK1.out; omega
              case rel => exact ⟨(t122), (wrap64 (x34_1 + 1)), (by first | rfl | (simp; done) | (simp [*]; done)), H', ⟨by have := HK1.out; omega⟩, ⟨by (with_reducible repeat (first | apply Kd.R_alloc | apply Kd.R_drewN | apply Kd.R_drew)); exact HO124.out⟩, ⟨by repeat (first | (with_reducible first | exact HB.out | apply below_alloc | apply pw_below_drewN | apply below_drew1) | exact HB.out)⟩⟩
            · rw [if_neg c20] at H
              exact absurd H (by simp)
          · rw [if_neg c19] at H
            exact absurd H (by simp)
        · rw [if_neg c18] at H
          have c18b0 : decide (x34_1 < (l3.length : Int)) = false := decide_eq_false c18
          clear c18
          replace H := Option.bind_eq_some_iff.mp H
          obtain ⟨t125, A240, H⟩ := H
          replace H : (some t125) = some r := H
          have A24 := Aside0.mk A240
          clear A240
          obtain rfl := Option.some.inj H
          obtain ⟨Ao25, co25, eo25⟩ := Kd.R_slice HO_9.out
          subst eo25
          go_wp2_with (first | ((with_reducible refine gate_callee (f := 11) rfl ?_); refine goesL_ (some 43) rfl rfl Try.func11 (by kernel_rfl) rfl #[.slice Ao25 x9_1.length co25] rfl (by (try simp only [List.map_toArray, List.map_cons, List.map_nil]); first | done | rfl | (simp only [List.length_drop, List.length_take]; rfl)) ?_; (with_reducible refine (digest_Bytes.calls k1 _ _ x9_1 t125 _ ?side1 ?side2 A24.out).mono ?_); (case side1 => repeat (first | exact (Kd.R_reads' HO_9.out).2.2 | (with_reducible refine Kd.C_alloc ?_ _) | (with_reducible refine Kd.C_drewN ?_ _) | (with_reducible refine Kd.C_drew ?_))); (case side2 => exact (Kd.R_reads' HO_9.out).2.1); rintro e w' ⟨rfl, ⟨nd, rfl⟩⟩; refine ⟨_, rfl, ?_⟩))
          go_ret
          exact ⟨by first | rfl | (simp [errW_none, errW_some] <;> rfl) | (simp [*, errW_none, errW_some] <;> rfl), by repeat (first | (with_reducible first | exact HB.out | apply below_alloc | apply pw_below_drewN | apply below_drew1) | exact HB.out)⟩
  · rw [if_neg c7] at H
    exact absurd H (by simp)

/-! ### vinculumref04_Update: function 14 -/
def vinculumref04_Update.l0 : Nat → Int → List Int → Int → Option (Int)
  | 0, _, _, _ => none
  | k + 1, x0, x1, x5 => if x5 < (x1.length : Int) then (if 0 ≤ x5 then (vinculumref04_Update.l0 k (IntKind.u64.wrap ((Go.bits .xor .u64 x0 (IntKind.u64.wrap (rd x1 x5))) * 1099511628211)) x1 (wrap64 (x5 + 1))) else (none)) else (some x0)
def vinculumref04_Update.f (k : Nat) (a0 : Int) (l1 : List Int) : Option (Int) := vinculumref04_Update.l0 k a0 l1 0
theorem vinculumref04_Update.mono_l : ∀ k, (∀ y0 y1 y2, LeO (vinculumref04_Update.l0 k y0 y1 y2) (vinculumref04_Update.l0 (k + 1) y0 y1 y2))
  | 0 => fun _ _ _ r h => by simp [vinculumref04_Update.l0] at h
  | k + 1 => by
    have ih0 := vinculumref04_Update.mono_l k
    · intro y0 y1 y2
      unfold vinculumref04_Update.l0
      repeat' first
      | (with_reducible exact ih0 _ _ _)
      | (with_reducible exact LeO.refl _)
      | (with_reducible exact LeO.none _)
      | (with_reducible refine LeO.ite ?_ ?_)
      | (with_reducible refine LeO.bind ?_ (fun _ => ?_))
      | exact ih0 _ _ _
      | exact LeO.none _
      | refine LeO.ite ?_ ?_
      | refine LeO.bind ?_ (fun _ => ?_)
theorem vinculumref04_Update.mono : ∀ a0 a1 k, LeO (vinculumref04_Update.f k a0 a1) (vinculumref04_Update.f (k + 1) a0 a1) := by
  intro a0 a1 k
  have ih0 := vinculumref04_Update.mono_l k
  unfold vinculumref04_Update.f
  repeat' first
      | (with_reducible exact ih0 _ _ _)
      | (with_reducible exact LeO.refl _)
      | (with_reducible exact LeO.none _)
      | (with_reducible refine LeO.ite ?_ ?_)
      | (with_reducible refine LeO.bind ?_ (fun _ => ?_))
      | exact ih0 _ _ _
      | exact LeO.none _
      | refine LeO.ite ?_ ?_
      | refine LeO.bind ?_ (fun _ => ?_)
set_option maxHeartbeats 8000000 in
set_option maxRecDepth 100000 in
theorem vinculumref04_Update.calls (k : Nat) (a0 : Int) (A1 : Option Addr) (c1 : Nat) (l1 : List Int) (r : Int) (w : World) (hr1 : Kd.C (Kd.int .u8) w A1 l1.length l1) (hc1 : l1.length ≤ c1) (h : vinculumref04_Update.f k a0 l1 = some r) :
    Calls Try.prog 14 #[.int .u64 a0, .slice A1 l1.length c1] w fun e w' => e = .returned (.int .u64 r) ∧ Drawn0 w w' := by
  have HR1 := Aside0.mk hr1
  have HC1 := Aside0.mk hc1
  clear hr1 hc1
  have H : (vinculumref04_Update.l0 k a0 l1 0) = some r := h
  clear h
  have H' := Aside0.mk H
  clear H
  go_enter Try.func14, Try.ntmps14
  go_wp2
  go_loopg [0, 5] k (fun kq v0 v5 w' => ∃ (x0_1 : Int) (x5_1 : Int), v0 = .int .u64 x0_1 ∧ v5 = .int .i64 x5_1 ∧ Aside0 (vinculumref04_Update.l0 kq x0_1 l1 x5_1 = some r) ∧ Aside0 (kq ≤ k) ∧ Drawn0 w w')
  case atStart => exact ⟨(a0), (0), (by first | rfl | (simp; done) | (simp [*]; done)), (by first | rfl | (simp; done) | (simp [*]; done)), H', ⟨Nat.le_refl _⟩, by repeat (first | exact Drawn0.refl _ | apply Drawn0.step)⟩
  case round =>
    clear H'
    try clear c1
    try clear p2
    obtain ⟨x0_1, x5_1, rfl, rfl, HA, HK1, ⟨m1, rfl⟩⟩ := hrel
    cases gk with
    | zero => exact absurd HA.out (by simp [vinculumref04_Update.l0])
    | succ k1 =>
      have H := HA.out
      clear HA
      simp only [vinculumref04_Update.l0] at H
      by_cases c3 : x5_1 < (l1.length : Int)
      · rw [if_pos c3] at H
        have c3b0 : decide (x5_1 < (l1.length : Int)) = true := decide_eq_true c3
        clear c3
        by_cases c4 : 0 ≤ x5_1
        · rw [if_pos c4] at H
          have c4b0 : decide (0 ≤ x5_1) = true := decide_eq_true c4
          clear c4
          have H' := Aside0.mk H
          clear H
          have p126 : 0 ≤ (x5_1 : Int) := of_decide_eq_true (by first | (with_reducible assumption) | assumption)
          have q126 : x5_1 < (l1.length : Int) := of_decide_eq_true (by first | (with_reducible assumption) | assumption)
          obtain ⟨ad126, e126, hx126_0⟩ := Kd.at_int HR1.out x5_1 p126 q126
          cases e126
          replace p126 := eq_true p126
          replace q126 := eq_true q126
          go_wp2
          go_roundg k1
          case measure => have := HK1.out; omega
          case rel => exact ⟨(IntKind.u64.wrap ((Go.bits .xor .u64 x0_1 (IntKind.u64.wrap (rd l1 x5_1))) * 1099511628211)), (wrap64 (x5_1 + 1)), (by first | rfl | (simp; done) | (simp [*]; done)), (by first | rfl | (simp; done) | (simp [*]; done)), H', ⟨by have := HK1.out; omega⟩, by repeat (first | exact Drawn0.refl _ | apply Drawn0.step)⟩
        · rw [if_neg c4] at H
          exact absurd H (by simp)
      · rw [if_neg c3] at H
        have c3b0 : decide (x5_1 < (l1.length : Int)) = false := decide_eq_false c3
        clear c3
        obtain rfl := Option.some.inj H
        go_wp2
        go_ret
        exact ⟨by first | rfl | (simp; done) | (simp [*]; done), by repeat (first | exact Drawn0.refl _ | apply Drawn0.step)⟩

/-! ### vinculumref04_Bytes: function 12 -/
def vinculumref04_Bytes.f (k : Nat) (l0 : List Int) : Option (Int) := (vinculumref04_Update.f k 14695981039346656037 l0).bind fun t127 => (some t127)
theorem vinculumref04_Bytes.mono : ∀ a0 k, LeO (vinculumref04_Bytes.f k a0) (vinculumref04_Bytes.f (k + 1) a0) := by
  intro a0 k
  unfold vinculumref04_Bytes.f
  repeat' first
      | (with_reducible exact vinculumref04_Update.mono _ _ _)
      | (with_reducible exact LeO.refl _)
      | (with_reducible exact LeO.none _)
      | (with_reducible refine LeO.ite ?_ ?_)
      | (with_reducible refine LeO.bind ?_ (fun _ => ?_))
      | exact vinculumref04_Update.mono _ _ _
      | exact LeO.none _
      | refine LeO.ite ?_ ?_
      | refine LeO.bind ?_ (fun _ => ?_)
set_option maxHeartbeats 8000000 in
set_option maxRecDepth 100000 in
theorem vinculumref04_Bytes.calls (k : Nat) (A0 : Option Addr) (c0 : Nat) (l0 : List Int) (r : Int) (w : World) (hr0 : Kd.C (Kd.int .u8) w A0 l0.length l0) (hc0 : l0.length ≤ c0) (h : vinculumref04_Bytes.f k l0 = some r) :
    Calls Try.prog 12 #[.slice A0 l0.length c0] w fun e w' => e = .returned (.int .u64 r) ∧ Drawn0 w w' := by
  have HR0 := Aside0.mk hr0
  have HC0 := Aside0.mk hc0
  clear hr0 hc0
  have H : ((vinculumref04_Update.f k 14695981039346656037 l0).bind fun t127 => (some t127)) = some r := h
  clear h
  replace H := Option.bind_eq_some_iff.mp H
  obtain ⟨t127, A20, H⟩ := H
  replace H : (some t127) = some r := H
  have A2 := Aside0.mk A20
  clear A20
  obtain rfl := Option.some.inj H
  go_enter Try.func12, Try.ntmps12
  go_wp2_with (first | ((with_reducible refine gate_callee (f := 14) rfl ?_); refine goesL_ (some 4) rfl rfl Try.func14 (by kernel_rfl) rfl #[.int .u64 14695981039346656037, .slice A0 l0.length c0] rfl (by (try simp only [List.map_toArray, List.map_cons, List.map_nil]); first | done | rfl | (simp only [List.length_drop, List.length_take]; rfl)) ?_; (with_reducible refine (vinculumref04_Update.calls k 14695981039346656037 _ _ l0 t127 _ ?side1 ?side2 A2.out).mono ?_); (case side1 => repeat (first | exact HR0.out | (with_reducible refine Kd.C_alloc ?_ _) | (with_reducible refine Kd.C_drewN ?_ _) | (with_reducible refine Kd.C_drew ?_))); (case side2 => exact HC0.out); rintro e w' ⟨rfl, ⟨nd, rfl⟩⟩; refine ⟨_, rfl, ?_⟩))
  go_ret
  exact ⟨by first | rfl | (simp; done) | (simp [*]; done), by repeat (first | exact Drawn0.refl _ | apply Drawn0.step)⟩

/-! ### vinculumref04_Eight: function 23 -/
def vinculumref04_Eight.l0 : Nat → Int → List Int → Int → Option (List Int)
  | 0, _, _, _ => none
  | k + 1, x0, x3, x4 => if x4 < 8 then (if 0 ≤ (wrap64 (56 - (wrap64 (8 * x4)))) then (if x3.length < 140737488355328 then (vinculumref04_Eight.l0 k x0 (x3 ++ [(shr .u64 x0 (wrap64 (56 - (wrap64 (8 * x4))))) % 256]) (wrap64 (x4 + 1))) else (none)) else (none)) else (some x3)
def vinculumref04_Eight.f (k : Nat) (a0 : Int) : Option (List Int) := vinculumref04_Eight.l0 k a0 ([] : List Int) 0
theorem vinculumref04_Eight.mono_l : ∀ k, (∀ y0 y1 y2, LeO (vinculumref04_Eight.l0 k y0 y1 y2) (vinculumref04_Eight.l0 (k + 1) y0 y1 y2))
  | 0 => fun _ _ _ r h => by simp [vinculumref04_Eight.l0] at h
  | k + 1 => by
    have ih0 := vinculumref04_Eight.mono_l k
    · intro y0 y1 y2
      unfold vinculumref04_Eight.l0
      repeat' first
      | (with_reducible exact ih0 _ _ _)
      | (with_reducible exact LeO.refl _)
      | (with_reducible exact LeO.none _)
      | (with_reducible refine LeO.ite ?_ ?_)
      | (with_reducible refine LeO.bind ?_ (fun _ => ?_))
      | exact ih0 _ _ _
      | exact LeO.none _
      | refine LeO.ite ?_ ?_
      | refine LeO.bind ?_ (fun _ => ?_)
theorem vinculumref04_Eight.mono : ∀ a0 k, LeO (vinculumref04_Eight.f k a0) (vinculumref04_Eight.f (k + 1) a0) := by
  intro a0 k
  have ih0 := vinculumref04_Eight.mono_l k
  unfold vinculumref04_Eight.f
  repeat' first
      | (with_reducible exact ih0 _ _ _)
      | (with_reducible exact LeO.refl _)
      | (with_reducible exact LeO.none _)
      | (with_reducible refine LeO.ite ?_ ?_)
      | (with_reducible refine LeO.bind ?_ (fun _ => ?_))
      | exact ih0 _ _ _
      | exact LeO.none _
      | refine LeO.ite ?_ ?_
      | refine LeO.bind ?_ (fun _ => ?_)
set_option maxHeartbeats 8000000 in
set_option maxRecDepth 100000 in
theorem vinculumref04_Eight.calls (k : Nat) (a0 : Int) (r : List Int) (w : World) (h : vinculumref04_Eight.f k a0 = some r) :
    Calls Try.prog 23 #[.int .u64 a0] w fun e w' => ∃ v0_ : Value, e = .returned (v0_) ∧ Kd.R (Kd.int .u8) 5 w' w.heap.size (fun _ => True) v0_ r ∧ Below w.heap.size w w' := by
  have HB := Aside0.mk (Below.refl w.heap.size w)
  have H : (vinculumref04_Eight.l0 k a0 ([] : List Int) 0) = some r := h
  clear h
  have H' := Aside0.mk H
  clear H
  go_enter Try.func23, Try.ntmps23
  go_wp2
  go_loopg [3, 4] k (fun kq v3 v4 w' => ∃ (x3_1 : List Int) (x4_1 : Int), v4 = .int .i64 x4_1 ∧ Aside0 (vinculumref04_Eight.l0 kq a0 x3_1 x4_1 = some r) ∧ Aside0 (kq ≤ k) ∧ Aside0 (Kd.R (Kd.int .u8) 5 w' w.heap.size (fun _ => True) v3 x3_1) ∧ Aside0 (Below w.heap.size w w'))
  case atStart => exact ⟨(([] : List Int)), (0), (by first | rfl | (simp; done) | (simp [*]; done)), H', ⟨Nat.le_refl _⟩, ⟨by first | exact Kd.R_nil _ _ _ _ _ | exact Kd.N_nil _ _ _ _ _ | exact Kd.V_nil _ _ _ _ _ | exact Kd.Q_nil _ _ _ _ _ | exact Kd.S_nil _ _ _ _ _⟩, ⟨by repeat (first | (with_reducible first | exact HB.out | apply below_alloc | apply pw_below_drewN | apply below_drew1) | exact HB.out)⟩⟩
  case round =>
    clear H'
    obtain ⟨x3_1, x4_1, rfl, HA, HK1, HO_3, HB⟩ := hrel
    cases gk with
    | zero => exact absurd HA.out (by simp [vinculumref04_Eight.l0])
    | succ k1 =>
      have H := HA.out
      clear HA
      simp only [vinculumref04_Eight.l0] at H
      by_cases c2 : x4_1 < 8
      · rw [if_pos c2] at H
        have c2b0 : decide (x4_1 < 8) = true := decide_eq_true c2
        clear c2
        obtain ⟨ji3, hji3⟩ : ∃ j_ : Int, (wrap64 (56 - (wrap64 (8 * x4_1)))) = j_ := ⟨_, rfl⟩
        replace H : (if 0 ≤ (ji3) then (if x3_1.length < 140737488355328 then (vinculumref04_Eight.l0 k1 a0 (x3_1 ++ [(shr .u64 a0 (ji3)) % 256]) (wrap64 (x4_1 + 1))) else (none)) else (none)) = some r := by first | (rw [hji3] at H; exact H) | (simp only [hji3] at H ⊢; exact H)
        have hji3w : (IntKind.i64.wrap (56 - (wrap64 (8 * x4_1)))) = ji3 := (i64_w _).trans hji3
        by_cases c4 : 0 ≤ (ji3)
        · rw [if_pos c4] at H
          have c4b0 := eq_true c4
          have c4b1 : decide (0 ≤ (ji3)) = true := decide_eq_true c4
          clear c4
          obtain ⟨ji5, hji5⟩ : ∃ j_ : Int, (shr .u64 a0 (ji3)) = j_ := ⟨_, rfl⟩
          replace H : (if x3_1.length < 140737488355328 then (vinculumref04_Eight.l0 k1 a0 (x3_1 ++ [(ji5) % 256]) (wrap64 (x4_1 + 1))) else (none)) = some r := by first | (rw [hji5] at H; exact H) | (simp only [hji5] at H ⊢; exact H)
          have hji5_ : (a0 / 2 ^ min (ji3).toNat 64) = ji5 := hji5
          have hji5z : (ji3) ≤ 64 → (a0 / 2 ^ (ji3).toNat) = ji5 := shr_small hji5
          by_cases c6 : x3_1.length < 140737488355328
          · rw [if_pos c6] at H
            have LMc6 := Aside0.mk c6
            clear c6
            obtain ⟨y128, hy128⟩ : ∃ y_ : List Int, y_ = (x3_1 ++ [(ji5) % 256]) := ⟨_, rfl⟩
            replace H : (vinculumref04_Eight.l0 k1 a0 y128 (wrap64 (x4_1 + 1))) = some r := by first | (rw [hy128]; with_reducible exact H) | (have H2_ := (Option.bind_some _ _).symm.trans H; rw [hy128]; with_reducible exact H2_) | (have H2_ := (Option.bind_some _ _).symm.trans H; with_reducible exact H2_) | with_reducible exact H | (rw [hy128]; exact H) | exact H
            have Ny128 := Aside0.mk hy128
            clear hy128
            have H' := Aside0.mk H
            clear H
            go_wp2_with (first | ((with_reducible refine gate_builtin (b := .append) (xs := #[.tmp 9, .tmp 16]) rfl ?_); at_builtin; refine Kd.R_append (Kd.int .u8) (w0 := w) w.heap.size rfl (.tmp 9) (.tmp 16) 23 5 (.int .u8 0) 1 rfl Try.underlying23 info5 rfl (by decide) (by omega) u3 x3_1 ((ji5) % 256) [.int .u8 ((ji5) % 256)] (fun _ => True) (fun _ => False) rfl rfl ?aP (fun _ hk => hk.elim) ?aF ?aO ?aB ?aS ?aL ?_; (case aP => exact rfl); (case aB => exact (by repeat (first | (with_reducible first | exact HB.out | apply below_alloc | apply pw_below_drewN | apply below_drew1) | exact HB.out))); (case aF => exact (fun _ _ => trivial)); (case aO => exact (by (with_reducible repeat (first | apply Kd.R_alloc | apply Kd.R_drewN | apply Kd.R_drew)); exact HO_3.out)); (case aS => exact (below_size (by repeat (first | (with_reducible first | exact HB.out | apply below_alloc | apply pw_below_drewN | apply below_drew1) | exact HB.out)))); (case aL => have := LMc6.out; omega); intro v129 w7 ho hb hg hat; rw [← Ny128.out] at ho; have n0_ := Aside0.mk (hb); have n1_ := Aside0.mk (ho); clear HB; clear HO_3; have HB := n0_; have HO130 := n1_; clear n0_ n1_; clear ho hb hg hat))
            go_roundg k1
            case measure => have := HK1.out; omega
            case rel => exact ⟨(y128), (wrap64 (x4_1 + 1)), (by first | rfl | (simp; done) | (simp [*]; done)), H', ⟨by have := HK1.out; omega⟩, ⟨by (with_reducible repeat (first | apply Kd.R_alloc | apply Kd.R_drewN | apply Kd.R_drew)); exact HO130.out⟩, ⟨by repeat (first | (with_reducible first | exact HB.out | apply below_alloc | apply pw_below_drewN | apply below_drew1) | exact HB.out)⟩⟩
          · rw [if_neg c6] at H
            exact absurd H (by simp)
        · rw [if_neg c4] at H
          exact absurd H (by simp)
      · rw [if_neg c2] at H
        have c2b0 : decide (x4_1 < 8) = false := decide_eq_false c2
        clear c2
        obtain rfl := Option.some.inj H
        go_wp2
        go_ret
        exact ⟨_, by first | rfl | (simp [errW_none, errW_some] <;> rfl) | (simp [*, errW_none, errW_some] <;> rfl), by (with_reducible repeat (first | apply Kd.R_alloc | apply Kd.R_drewN | apply Kd.R_drew)); exact HO_3.out, by repeat (first | (with_reducible first | exact HB.out | apply below_alloc | apply pw_below_drewN | apply below_drew1) | exact HB.out)⟩

/-! ### vinculumref04_Join: function 16 -/
def vinculumref04_Join.l0 : Nat → List Int → List Int → Int → Option (Int)
  | 0, _, _, _ => none
  | k + 1, x3, x9, x10 => if x10 < (x3.length : Int) then (if 0 ≤ x10 then ((vinculumref04_Eight.f k (rd x3 x10)).bind fun t156 => (if x9.length + t156.length < 140737488355328 then (vinculumref04_Join.l0 k x3 (x9 ++ t156) (wrap64 (x10 + 1))) else (none))) else (none)) else ((vinculumref04_Bytes.f k x9).bind fun t162 => (some t162))
def vinculumref04_Join.f (k : Nat) (a0 : Int) (a1 : ByteArray) (a2 : Int) (l3 : List Int) : Option (Int) := (vinculumref04_Eight.f k (IntKind.u64.wrap (a0))).bind fun t131 => ((vinculumref04_Eight.f k (IntKind.u64.wrap ((a1.size : Int)))).bind fun t134 => (if t131.length + t134.length < 140737488355328 then ((some (t131 ++ t134 : List Int)).bind fun y137 => (if y137.length + a1.size < 140737488355328 then ((some (y137 ++ bytesOf a1 : List Int)).bind fun y140 => ((vinculumref04_Eight.f k (IntKind.u64.wrap (a2))).bind fun t143 => (if y140.length + t143.length < 140737488355328 then ((some (y140 ++ t143 : List Int)).bind fun y146 => ((vinculumref04_Eight.f k (IntKind.u64.wrap ((l3.length : Int)))).bind fun t149 => (if y146.length + t149.length < 140737488355328 then (vinculumref04_Join.l0 k l3 (y146 ++ t149) 0) else (none)))) else (none)))) else (none))) else (none)))
theorem vinculumref04_Join.mono_l : ∀ k, (∀ y0 y1 y2, LeO (vinculumref04_Join.l0 k y0 y1 y2) (vinculumref04_Join.l0 (k + 1) y0 y1 y2))
  | 0 => fun _ _ _ r h => by simp [vinculumref04_Join.l0] at h
  | k + 1 => by
    have ih0 := vinculumref04_Join.mono_l k
    · intro y0 y1 y2
      unfold vinculumref04_Join.l0
      repeat' first
      | (with_reducible exact ih0 _ _ _)
      | (with_reducible exact vinculumref04_Bytes.mono _ _)
      | (with_reducible exact vinculumref04_Eight.mono _ _)
      | (with_reducible exact LeO.refl _)
      | (with_reducible exact LeO.none _)
      | (with_reducible refine LeO.ite ?_ ?_)
      | (with_reducible refine LeO.bind ?_ (fun _ => ?_))
      | exact ih0 _ _ _
      | exact vinculumref04_Bytes.mono _ _
      | exact vinculumref04_Eight.mono _ _
      | exact LeO.none _
      | refine LeO.ite ?_ ?_
      | refine LeO.bind ?_ (fun _ => ?_)
theorem vinculumref04_Join.mono : ∀ a0 a1 a2 a3 k, LeO (vinculumref04_Join.f k a0 a1 a2 a3) (vinculumref04_Join.f (k + 1) a0 a1 a2 a3) := by
  intro a0 a1 a2 a3 k
  have ih0 := vinculumref04_Join.mono_l k
  unfold vinculumref04_Join.f
  repeat' first
      | (with_reducible exact ih0 _ _ _)
      | (with_reducible exact vinculumref04_Bytes.mono _ _)
      | (with_reducible exact vinculumref04_Eight.mono _ _)
      | (with_reducible exact LeO.refl _)
      | (with_reducible exact LeO.none _)
      | (with_reducible refine LeO.ite ?_ ?_)
      | (with_reducible refine LeO.bind ?_ (fun _ => ?_))
      | exact ih0 _ _ _
      | exact vinculumref04_Bytes.mono _ _
      | exact vinculumref04_Eight.mono _ _
      | exact LeO.none _
      | refine LeO.ite ?_ ?_
      | refine LeO.bind ?_ (fun _ => ?_)
set_option maxHeartbeats 8000000 in
set_option maxRecDepth 100000 in
theorem vinculumref04_Join.calls (k : Nat) (a0 : Int) (a1 : ByteArray) (a2 : Int) (A3 : Option Addr) (c3 : Nat) (l3 : List Int) (r : Int) (w : World) (hr3 : Kd.C (Kd.int .u64) w A3 l3.length l3) (hc3 : l3.length ≤ c3) (h : vinculumref04_Join.f k a0 a1 a2 l3 = some r) :
    Calls Try.prog 16 #[.int .i64 a0, .string a1, .int .i64 a2, .slice A3 l3.length c3] w fun e w' => e = .returned (.int .u64 r) ∧ Below w.heap.size w w' := by
  have HR3 := Aside0.mk hr3
  have HC3 := Aside0.mk hc3
  clear hr3 hc3
  have HB := Aside0.mk (Below.refl w.heap.size w)
  have H : ((vinculumref04_Eight.f k (IntKind.u64.wrap (a0))).bind fun t131 => ((vinculumref04_Eight.f k (IntKind.u64.wrap ((a1.size : Int)))).bind fun t134 => (if t131.length + t134.length < 140737488355328 then ((some (t131 ++ t134 : List Int)).bind fun y137 => (if y137.length + a1.size < 140737488355328 then ((some (y137 ++ bytesOf a1 : List Int)).bind fun y140 => ((vinculumref04_Eight.f k (IntKind.u64.wrap (a2))).bind fun t143 => (if y140.length + t143.length < 140737488355328 then ((some (y140 ++ t143 : List Int)).bind fun y146 => ((vinculumref04_Eight.f k (IntKind.u64.wrap ((l3.length : Int)))).bind fun t149 => (if y146.length + t149.length < 140737488355328 then (vinculumref04_Join.l0 k l3 (y146 ++ t149) 0) else (none)))) else (none)))) else (none))) else (none)))) = some r := h
  clear h
  replace H := Option.bind_eq_some_iff.mp H
  obtain ⟨t131, A50, H⟩ := H
  replace H : ((vinculumref04_Eight.f k (IntKind.u64.wrap ((a1.size : Int)))).bind fun t134 => (if t131.length + t134.length < 140737488355328 then ((some (t131 ++ t134 : List Int)).bind fun y137 => (if y137.length + a1.size < 140737488355328 then ((some (y137 ++ bytesOf a1 : List Int)).bind fun y140 => ((vinculumref04_Eight.f k (IntKind.u64.wrap (a2))).bind fun t143 => (if y140.length + t143.length < 140737488355328 then ((some (y140 ++ t143 : List Int)).bind fun y146 => ((vinculumref04_Eight.f k (IntKind.u64.wrap ((l3.length : Int)))).bind fun t149 => (if y146.length + t149.length < 140737488355328 then (vinculumref04_Join.l0 k l3 (y146 ++ t149) 0) else (none)))) else (none)))) else (none))) else (none))) = some r := H
  have A5 := Aside0.mk A50
  clear A50
  replace H := Option.bind_eq_some_iff.mp H
  obtain ⟨t134, A60, H⟩ := H
  replace H : (if t131.length + t134.length < 140737488355328 then ((some (t131 ++ t134 : List Int)).bind fun y137 => (if y137.length + a1.size < 140737488355328 then ((some (y137 ++ bytesOf a1 : List Int)).bind fun y140 => ((vinculumref04_Eight.f k (IntKind.u64.wrap (a2))).bind fun t143 => (if y140.length + t143.length < 140737488355328 then ((some (y140 ++ t143 : List Int)).bind fun y146 => ((vinculumref04_Eight.f k (IntKind.u64.wrap ((l3.length : Int)))).bind fun t149 => (if y146.length + t149.length < 140737488355328 then (vinculumref04_Join.l0 k l3 (y146 ++ t149) 0) else (none)))) else (none)))) else (none))) else (none)) = some r := H
  have A6 := Aside0.mk A60
  clear A60
  by_cases c7 : t131.length + t134.length < 140737488355328
  · rw [if_pos c7] at H
    have LMc7 := Aside0.mk c7
    clear c7
    obtain ⟨y137, hy137⟩ : ∃ y_ : List Int, y_ = (t131 ++ t134) := ⟨_, rfl⟩
    replace H : (if y137.length + a1.size < 140737488355328 then ((some (y137 ++ bytesOf a1 : List Int)).bind fun y140 => ((vinculumref04_Eight.f k (IntKind.u64.wrap (a2))).bind fun t143 => (if y140.length + t143.length < 140737488355328 then ((some (y140 ++ t143 : List Int)).bind fun y146 => ((vinculumref04_Eight.f k (IntKind.u64.wrap ((l3.length : Int)))).bind fun t149 => (if y146.length + t149.length < 140737488355328 then (vinculumref04_Join.l0 k l3 (y146 ++ t149) 0) else (none)))) else (none)))) else (none)) = some r := by first | (rw [hy137]; with_reducible exact H) | (have H2_ := (Option.bind_some _ _).symm.trans H; rw [hy137]; with_reducible exact H2_) | (have H2_ := (Option.bind_some _ _).symm.trans H; with_reducible exact H2_) | with_reducible exact H | (rw [hy137]; exact H) | exact H
    have Ny137 := Aside0.mk hy137
    clear hy137
    by_cases c8 : y137.length + a1.size < 140737488355328
    · rw [if_pos c8] at H
      have LMc8 := Aside0.mk c8
      clear c8
      obtain ⟨y140, hy140⟩ : ∃ y_ : List Int, y_ = (y137 ++ bytesOf a1) := ⟨_, rfl⟩
      replace H : ((vinculumref04_Eight.f k (IntKind.u64.wrap (a2))).bind fun t143 => (if y140.length + t143.length < 140737488355328 then ((some (y140 ++ t143 : List Int)).bind fun y146 => ((vinculumref04_Eight.f k (IntKind.u64.wrap ((l3.length : Int)))).bind fun t149 => (if y146.length + t149.length < 140737488355328 then (vinculumref04_Join.l0 k l3 (y146 ++ t149) 0) else (none)))) else (none))) = some r := by first | (rw [hy140]; with_reducible exact H) | (have H2_ := (Option.bind_some _ _).symm.trans H; rw [hy140]; with_reducible exact H2_) | (have H2_ := (Option.bind_some _ _).symm.trans H; with_reducible exact H2_) | with_reducible exact H | (rw [hy140]; exact H) | exact H
      have Ny140 := Aside0.mk hy140
      clear hy140
      replace H := Option.bind_eq_some_iff.mp H
      obtain ⟨t143, A90, H⟩ := H
      replace H : (if y140.length + t143.length < 140737488355328 then ((some (y140 ++ t143 : List Int)).bind fun y146 => ((vinculumref04_Eight.f k (IntKind.u64.wrap ((l3.length : Int)))).bind fun t149 => (if y146.length + t149.length < 140737488355328 then (vinculumref04_Join.l0 k l3 (y146 ++ t149) 0) else (none)))) else (none)) = some r := H
      have A9 := Aside0.mk A90
      clear A90
      by_cases c10 : y140.length + t143.length < 140737488355328
      · rw [if_pos c10] at H
        have LMc10 := Aside0.mk c10
        clear c10
        obtain ⟨y146, hy146⟩ : ∃ y_ : List Int, y_ = (y140 ++ t143) := ⟨_, rfl⟩
        replace H : ((vinculumref04_Eight.f k (IntKind.u64.wrap ((l3.length : Int)))).bind fun t149 => (if y146.length + t149.length < 140737488355328 then (vinculumref04_Join.l0 k l3 (y146 ++ t149) 0) else (none))) = some r := by first | (rw [hy146]; with_reducible exact H) | (have H2_ := (Option.bind_some _ _).symm.trans H; rw [hy146]; with_reducible exact H2_) | (have H2_ := (Option.bind_some _ _).symm.trans H; with_reducible exact H2_) | with_reducible exact H | (rw [hy146]; exact H) | exact H
        have Ny146 := Aside0.mk hy146
        clear hy146
        replace H := Option.bind_eq_some_iff.mp H
        obtain ⟨t149, A110, H⟩ := H
        replace H : (if y146.length + t149.length < 140737488355328 then (vinculumref04_Join.l0 k l3 (y146 ++ t149) 0) else (none)) = some r := H
        have A11 := Aside0.mk A110
        clear A110
        by_cases c12 : y146.length + t149.length < 140737488355328
        · rw [if_pos c12] at H
          have LMc12 := Aside0.mk c12
          clear c12
          obtain ⟨y152, hy152⟩ : ∃ y_ : List Int, y_ = (y146 ++ t149) := ⟨_, rfl⟩
          replace H : (vinculumref04_Join.l0 k l3 y152 0) = some r := by first | (rw [hy152]; with_reducible exact H) | (have H2_ := (Option.bind_some _ _).symm.trans H; rw [hy152]; with_reducible exact H2_) | (have H2_ := (Option.bind_some _ _).symm.trans H; with_reducible exact H2_) | with_reducible exact H | (rw [hy152]; exact H) | exact H
          have Ny152 := Aside0.mk hy152
          clear hy152
          have H' := Aside0.mk H
          clear H
          go_enter Try.func16, Try.ntmps16
          go_wp2_with (first | ((with_reducible refine gate_callee (f := 23) rfl ?_); refine goesL_ (some 13) rfl rfl Try.func23 (by kernel_rfl) rfl #[.int .u64 (IntKind.u64.wrap (a0))] rfl (by (try simp only [List.map_toArray, List.map_cons, List.map_nil]); first | done | rfl | (simp only [List.length_drop, List.length_take]; rfl)) ?_; (with_reducible refine (vinculumref04_Eight.calls k (IntKind.u64.wrap (a0)) t131 _ A5.out).mono ?_); rintro e w13 ⟨v132, rfl, ho0, hb⟩; refine ⟨_, rfl, ?_⟩; have n0_ := Aside0.mk (Kd.R_lower ho0 (below_size (by repeat (first | (with_reducible first | exact HB.out | apply below_alloc | apply pw_below_drewN | apply below_drew1) | exact HB.out)))); have n1_ := Aside0.mk (below_step (by repeat (first | (with_reducible first | exact HB.out | apply below_alloc | apply pw_below_drewN | apply below_drew1) | exact HB.out)) hb); clear HB; have HO133 := n0_; have HB := n1_; clear n0_ n1_; (try clear hb); (try clear hb2); (try clear hk); (try clear hi); (try clear ho0)) | ((with_reducible refine gate_callee (f := 23) rfl ?_); refine goesL_ (some 17) rfl rfl Try.func23 (by kernel_rfl) rfl #[.int .u64 (IntKind.u64.wrap ((a1.size : Int)))] rfl (by (try simp only [List.map_toArray, List.map_cons, List.map_nil]); first | done | rfl | (simp only [List.length_drop, List.length_take]; rfl)) ?_; (with_reducible refine (vinculumref04_Eight.calls k (IntKind.u64.wrap ((a1.size : Int))) t134 _ A6.out).mono ?_); rintro e w14 ⟨v135, rfl, ho0, hb⟩; refine ⟨_, rfl, ?_⟩; have n0_ := Aside0.mk (Kd.R_elder' (by (with_reducible repeat (first | apply Kd.R_alloc | apply Kd.R_drewN | apply Kd.R_drew)); exact HO133.out) (Kd.R_base ho0) hb); have n1_ := Aside0.mk (Kd.R_lower (Kd.R_new' ho0 (Kd.R_lt (by (with_reducible repeat (first | apply Kd.R_alloc | apply Kd.R_drewN | apply Kd.R_drew)); exact HO133.out))) (below_size (by repeat (first | (with_reducible first | exact HB.out | apply below_alloc | apply pw_below_drewN | apply below_drew1) | exact HB.out)))); have n2_ := Aside0.mk (below_step (by repeat (first | (with_reducible first | exact HB.out | apply below_alloc | apply pw_below_drewN | apply below_drew1) | exact HB.out)) hb); clear HO133; clear HB; have HO133 := n0_; have HO136 := n1_; have HB := n2_; clear n0_ n1_ n2_; (try clear hb); (try clear hb2); (try clear hk); (try clear hi); (try clear ho0); obtain ⟨Ao16, co16, eo16⟩ := Kd.R_slice HO136.out; subst eo16) | ((with_reducible refine gate_builtin (b := .append) (xs := #[.tmp 13, .tmp 17]) rfl ?_); at_builtin; refine Kd.R_append_rows (Kd.int .u8) (w0 := w) w.heap.size rfl (.tmp 13) (.tmp 17) 23 5 (.int .u8 0) 1 rfl Try.underlying23 info5 rfl (by decide) (by omega) v132 t131 t134 _ _ _ (fun k_ => some k_ ≠ (.slice Ao16 t134.length co16 : Value).ownBlock) (fun _ => False) rfl rfl ?aO ?aR (fun _ _ h => h) (fun _ h => h.elim) ?aF ?aB ?aS ?aL ?_; (case aR => repeat (first | exact (Kd.R_reads' HO136.out).2.2 | (with_reducible refine Kd.C_alloc ?_ _) | (with_reducible refine Kd.C_drewN ?_ _) | (with_reducible refine Kd.C_drew ?_))); (case aB => exact (by repeat (first | (with_reducible first | exact HB.out | apply below_alloc | apply pw_below_drewN | apply below_drew1) | exact HB.out))); (case aF => exact (fun k_ hk => Kd.fresh' (Kd.R_lt (by (with_reducible repeat (first | apply Kd.R_alloc | apply Kd.R_drewN | apply Kd.R_drew)); exact HO136.out)) k_ hk)); (case aO => exact (by (with_reducible repeat (first | apply Kd.R_alloc | apply Kd.R_drewN | apply Kd.R_drew)); exact Kd.R_mono HO133.out (fun _ hk => hk.2))); (case aS => exact (below_size (by repeat (first | (with_reducible first | exact HB.out | apply below_alloc | apply pw_below_drewN | apply below_drew1) | exact HB.out)))); (case aL => have := LMc7.out; omega); intro v138 w15 ho hb hg hat; rw [← Ny137.out] at ho; have n0_ := Aside0.mk (Kd.R_after (ok := (fun _ => True)) (by (with_reducible repeat (first | apply Kd.R_alloc | apply Kd.R_drewN | apply Kd.R_drew)); exact HO136.out) hg hat); have n1_ := Aside0.mk (hb); have n2_ := Aside0.mk (ho); clear HO136; clear HB; clear HO133; have HO136 := n0_; have HB := n1_; have HO139 := n2_; clear n0_ n1_ n2_; clear ho hb hg hat) | (at_builtin; refine Kd.R_append_str (w0 := w) w.heap.size rfl (.tmp 19) _ 23 9 5 rfl Try.underlying23 Try.underlying9 info5 v138 y137 a1 (fun k_ => some k_ ≠ (.slice Ao16 t134.length co16 : Value).ownBlock) rfl rfl ?aO ?aF ?aB ?aS ?aL ?_; (case aB => exact (by repeat (first | (with_reducible first | exact HB.out | apply below_alloc | apply pw_below_drewN | apply below_drew1) | exact HB.out))); (case aF => exact (fun k_ hk => Kd.fresh' (Kd.R_lt (by (with_reducible repeat (first | apply Kd.R_alloc | apply Kd.R_drewN | apply Kd.R_drew)); exact HO136.out)) k_ hk)); (case aO => exact (by (with_reducible repeat (first | apply Kd.R_alloc | apply Kd.R_drewN | apply Kd.R_drew)); exact HO139.out)); (case aS => exact (below_size (by repeat (first | (with_reducible first | exact HB.out | apply below_alloc | apply pw_below_drewN | apply below_drew1) | exact HB.out)))); (case aL => have := LMc8.out; omega); intro v141 w17 ho hb hg hat; rw [← Ny140.out] at ho; have n0_ := Aside0.mk (Kd.R_after (ok := (fun _ => True)) (by (with_reducible repeat (first | apply Kd.R_alloc | apply Kd.R_drewN | apply Kd.R_drew)); exact HO136.out) hg hat); have n1_ := Aside0.mk (hb); have n2_ := Aside0.mk (ho); clear HO136; clear HB; clear HO139; have HO136 := n0_; have HB := n1_; have HO142 := n2_; clear n0_ n1_ n2_; clear ho hb hg hat) | ((with_reducible refine gate_callee (f := 23) rfl ?_); refine goesL_ (some 25) rfl rfl Try.func23 (by kernel_rfl) rfl #[.int .u64 (IntKind.u64.wrap (a2))] rfl (by (try simp only [List.map_toArray, List.map_cons, List.map_nil]); first | done | rfl | (simp only [List.length_drop, List.length_take]; rfl)) ?_; (with_reducible refine (vinculumref04_Eight.calls k (IntKind.u64.wrap (a2)) t143 _ A9.out).mono ?_); rintro e w18 ⟨v144, rfl, ho0, hb⟩; refine ⟨_, rfl, ?_⟩; have n0_ := Aside0.mk (Kd.R_elder' (by (with_reducible repeat (first | apply Kd.R_alloc | apply Kd.R_drewN | apply Kd.R_drew)); exact HO136.out) (Kd.R_base ho0) hb); have n1_ := Aside0.mk (Kd.R_elder' (by (with_reducible repeat (first | apply Kd.R_alloc | apply Kd.R_drewN | apply Kd.R_drew)); exact HO142.out) (Kd.R_base ho0) hb); have n2_ := Aside0.mk (Kd.R_lower (Kd.R_new' (Kd.R_new' ho0 (Kd.R_lt (by (with_reducible repeat (first | apply Kd.R_alloc | apply Kd.R_drewN | apply Kd.R_drew)); exact HO136.out))) (Kd.R_lt (by (with_reducible repeat (first | apply Kd.R_alloc | apply Kd.R_drewN | apply Kd.R_drew)); exact HO142.out))) (below_size (by repeat (first | (with_reducible first | exact HB.out | apply below_alloc | apply pw_below_drewN | apply below_drew1) | exact HB.out)))); have n3_ := Aside0.mk (below_step (by repeat (first | (with_reducible first | exact HB.out | apply below_alloc | apply pw_below_drewN | apply below_drew1) | exact HB.out)) hb); clear HO136; clear HO142; clear HB; have HO136 := n0_; have HO142 := n1_; have HO145 := n2_; have HB := n3_; clear n0_ n1_ n2_ n3_; (try clear hb); (try clear hb2); (try clear hk); (try clear hi); (try clear ho0); obtain ⟨Ao20, co20, eo20⟩ := Kd.R_slice HO145.out; subst eo20) | ((with_reducible refine gate_builtin (b := .append) (xs := #[.tmp 22, .tmp 25]) rfl ?_); at_builtin; refine Kd.R_append_rows (Kd.int .u8) (w0 := w) w.heap.size rfl (.tmp 22) (.tmp 25) 23 5 (.int .u8 0) 1 rfl Try.underlying23 info5 rfl (by decide) (by omega) v141 y140 t143 _ _ _ (fun k_ => some k_ ≠ (.slice Ao16 t134.length co16 : Value).ownBlock ∧ some k_ ≠ (.slice Ao20 t143.length co20 : Value).ownBlock) (fun _ => False) rfl rfl ?aO ?aR (fun _ _ h => h) (fun _ h => h.elim) ?aF ?aB ?aS ?aL ?_; (case aR => repeat (first | exact (Kd.R_reads' HO145.out).2.2 | (with_reducible refine Kd.C_alloc ?_ _) | (with_reducible refine Kd.C_drewN ?_ _) | (with_reducible refine Kd.C_drew ?_))); (case aB => exact (by repeat (first | (with_reducible first | exact HB.out | apply below_alloc | apply pw_below_drewN | apply below_drew1) | exact HB.out))); (case aF => exact (fun k_ hk => ⟨Kd.fresh' (Kd.R_lt (by (with_reducible repeat (first | apply Kd.R_alloc | apply Kd.R_drewN | apply Kd.R_drew)); exact HO136.out)) k_ hk, Kd.fresh' (Kd.R_lt (by (with_reducible repeat (first | apply Kd.R_alloc | apply Kd.R_drewN | apply Kd.R_drew)); exact HO145.out)) k_ hk⟩)); (case aO => exact (by (with_reducible repeat (first | apply Kd.R_alloc | apply Kd.R_drewN | apply Kd.R_drew)); exact HO142.out)); (case aS => exact (below_size (by repeat (first | (with_reducible first | exact HB.out | apply below_alloc | apply pw_below_drewN | apply below_drew1) | exact HB.out)))); (case aL => have := LMc10.out; omega); intro v147 w19 ho hb hg hat; rw [← Ny146.out] at ho; have n0_ := Aside0.mk (Kd.R_after (ok := (fun k_ => some k_ ≠ (.slice Ao20 t143.length co20 : Value).ownBlock)) (by (with_reducible repeat (first | apply Kd.R_alloc | apply Kd.R_drewN | apply Kd.R_drew)); exact Kd.R_mono HO136.out (fun _ hk => ⟨hk.2, hk.1.2⟩)) hg hat); have n1_ := Aside0.mk (Kd.R_after (ok := (fun k_ => some k_ ≠ (.slice Ao16 t134.length co16 : Value).ownBlock)) (by (with_reducible repeat (first | apply Kd.R_alloc | apply Kd.R_drewN | apply Kd.R_drew)); exact Kd.R_mono HO145.out (fun _ hk => ⟨hk.1.2, hk.2⟩)) hg hat); have n2_ := Aside0.mk (hb); have n3_ := Aside0.mk (ho); clear HO136; clear HO145; clear HB; clear HO142; have HO136 := n0_; have HO145 := n1_; have HB := n2_; have HO148 := n3_; clear n0_ n1_ n2_ n3_; clear ho hb hg hat) | ((with_reducible refine gate_callee (f := 23) rfl ?_); refine goesL_ (some 30) rfl rfl Try.func23 (by kernel_rfl) rfl #[.int .u64 (IntKind.u64.wrap ((l3.length : Int)))] rfl (by (try simp only [List.map_toArray, List.map_cons, List.map_nil]); first | done | rfl | (simp only [List.length_drop, List.length_take]; rfl)) ?_; (with_reducible refine (vinculumref04_Eight.calls k (IntKind.u64.wrap ((l3.length : Int))) t149 _ A11.out).mono ?_); rintro e w21 ⟨v150, rfl, ho0, hb⟩; refine ⟨_, rfl, ?_⟩; have n0_ := Aside0.mk (Kd.R_elder' (by (with_reducible repeat (first | apply Kd.R_alloc | apply Kd.R_drewN | apply Kd.R_drew)); exact HO136.out) (Kd.R_base ho0) hb); have n1_ := Aside0.mk (Kd.R_elder' (by (with_reducible repeat (first | apply Kd.R_alloc | apply Kd.R_drewN | apply Kd.R_drew)); exact HO145.out) (Kd.R_base ho0) hb); have n2_ := Aside0.mk (Kd.R_elder' (by (with_reducible repeat (first | apply Kd.R_alloc | apply Kd.R_drewN | apply Kd.R_drew)); exact HO148.out) (Kd.R_base ho0) hb); have n3_ := Aside0.mk (Kd.R_lower (Kd.R_new' (Kd.R_new' (Kd.R_new' ho0 (Kd.R_lt (by (with_reducible repeat (first | apply Kd.R_alloc | apply Kd.R_drewN | apply Kd.R_drew)); exact HO136.out))) (Kd.R_lt (by (with_reducible repeat (first | apply Kd.R_alloc | apply Kd.R_drewN | apply Kd.R_drew)); exact HO145.out))) (Kd.R_lt (by (with_reducible repeat (first | apply Kd.R_alloc | apply Kd.R_drewN | apply Kd.R_drew)); exact HO148.out))) (below_size (by repeat (first | (with_reducible first | exact HB.out | apply below_alloc | apply pw_below_drewN | apply below_drew1) | exact HB.out)))); have n4_ := Aside0.mk (below_step (by repeat (first | (with_reducible first | exact HB.out | apply below_alloc | apply pw_below_drewN | apply below_drew1) | exact HB.out)) hb); clear HO136; clear HO145; clear HO148; clear HB; have HO136 := n0_; have HO145 := n1_; have HO148 := n2_; have HO151 := n3_; have HB := n4_; clear n0_ n1_ n2_ n3_ n4_; (try clear hb); (try clear hb2); (try clear hk); (try clear hi); (try clear ho0); obtain ⟨Ao23, co23, eo23⟩ := Kd.R_slice HO151.out; subst eo23) | ((with_reducible refine gate_builtin (b := .append) (xs := #[.tmp 26, .tmp 30]) rfl ?_); at_builtin; refine Kd.R_append_rows (Kd.int .u8) (w0 := w) w.heap.size rfl (.tmp 26) (.tmp 30) 23 5 (.int .u8 0) 1 rfl Try.underlying23 info5 rfl (by decide) (by omega) v147 y146 t149 _ _ _ (fun k_ => some k_ ≠ (.slice Ao16 t134.length co16 : Value).ownBlock ∧ some k_ ≠ (.slice Ao20 t143.length co20 : Value).ownBlock ∧ some k_ ≠ (.slice Ao23 t149.length co23 : Value).ownBlock) (fun _ => False) rfl rfl ?aO ?aR (fun _ _ h => h) (fun _ h => h.elim) ?aF ?aB ?aS ?aL ?_; (case aR => repeat (first | exact (Kd.R_reads' HO151.out).2.2 | (with_reducible refine Kd.C_alloc ?_ _) | (with_reducible refine Kd.C_drewN ?_ _) | (with_reducible refine Kd.C_drew ?_))); (case aB => exact (by repeat (first | (with_reducible first | exact HB.out | apply below_alloc | apply pw_below_drewN | apply below_drew1) | exact HB.out))); (case aF => exact (fun k_ hk => ⟨Kd.fresh' (Kd.R_lt (by (with_reducible repeat (first | apply Kd.R_alloc | apply Kd.R_drewN | apply Kd.R_drew)); exact HO136.out)) k_ hk, Kd.fresh' (Kd.R_lt (by (with_reducible repeat (first | apply Kd.R_alloc | apply Kd.R_drewN | apply Kd.R_drew)); exact HO145.out)) k_ hk, Kd.fresh' (Kd.R_lt (by (with_reducible repeat (first | apply Kd.R_alloc | apply Kd.R_drewN | apply Kd.R_drew)); exact HO151.out)) k_ hk⟩)); (case aO => exact (by (with_reducible repeat (first | apply Kd.R_alloc | apply Kd.R_drewN | apply Kd.R_drew)); exact Kd.R_mono HO148.out (fun _ hk => ⟨hk.1.1, ⟨hk.1.2, hk.2⟩⟩))); (case aS => exact (below_size (by repeat (first | (with_reducible first | exact HB.out | apply below_alloc | apply pw_below_drewN | apply below_drew1) | exact HB.out)))); (case aL => have := LMc12.out; omega); intro v153 w22 ho hb hg hat; rw [← Ny152.out] at ho; have n0_ := Aside0.mk (Kd.R_after (ok := (fun k_ => some k_ ≠ (.slice Ao20 t143.length co20 : Value).ownBlock ∧ some k_ ≠ (.slice Ao23 t149.length co23 : Value).ownBlock)) (by (with_reducible repeat (first | apply Kd.R_alloc | apply Kd.R_drewN | apply Kd.R_drew)); exact Kd.R_mono HO136.out (fun _ hk => ⟨⟨hk.1.1, hk.2⟩, hk.1.2⟩)) hg hat); have n1_ := Aside0.mk (Kd.R_after (ok := (fun k_ => some k_ ≠ (.slice Ao16 t134.length co16 : Value).ownBlock ∧ some k_ ≠ (.slice Ao23 t149.length co23 : Value).ownBlock)) (by (with_reducible repeat (first | apply Kd.R_alloc | apply Kd.R_drewN | apply Kd.R_drew)); exact Kd.R_mono HO145.out (fun _ hk => ⟨⟨hk.1.1, hk.2⟩, hk.1.2⟩)) hg hat); have n2_ := Aside0.mk (Kd.R_after (ok := (fun k_ => some k_ ≠ (.slice Ao16 t134.length co16 : Value).ownBlock ∧ some k_ ≠ (.slice Ao20 t143.length co20 : Value).ownBlock)) (by (with_reducible repeat (first | apply Kd.R_alloc | apply Kd.R_drewN | apply Kd.R_drew)); exact Kd.R_mono HO151.out (fun _ hk => ⟨⟨hk.1.1.2, hk.1.2⟩, hk.2⟩)) hg hat); have n3_ := Aside0.mk (hb); have n4_ := Aside0.mk (ho); clear HO136; clear HO145; clear HO151; clear HB; clear HO148; have HO136 := n0_; have HO145 := n1_; have HO151 := n2_; have HB := n3_; have HO154 := n4_; clear n0_ n1_ n2_ n3_ n4_; clear ho hb hg hat))
          go_loopg [9, 10] k (fun kq v9 v10 w' => ∃ (x9_1 : List Int) (x10_1 : Int), v10 = .int .i64 x10_1 ∧ Aside0 (vinculumref04_Join.l0 kq l3 x9_1 x10_1 = some r) ∧ Aside0 (kq ≤ k) ∧ Aside0 (Kd.R (Kd.int .u8) 5 w' w.heap.size (fun _ => True) v9 x9_1) ∧ Aside0 (Below w.heap.size w w'))
          case atStart => exact ⟨(y152), (0), (by first | rfl | (simp; done) | (simp [*]; done)), H', ⟨Nat.le_refl _⟩, ⟨by (with_reducible repeat (first | apply Kd.R_alloc | apply Kd.R_drewN | apply Kd.R_drew)); exact Kd.R_mono HO154.out (fun _ hk => trivial)⟩, ⟨by repeat (first | (with_reducible first | exact HB.out | apply below_alloc | apply pw_below_drewN | apply below_drew1) | exact HB.out)⟩⟩
          case round =>
            clear H'
            try clear c1
            try clear c2
            try clear p2
            try clear c3
            try clear c7
            try clear c8
            try clear c10
            try clear c12
            try clear c16
            try clear c23
            obtain ⟨x9_1, x10_1, rfl, HA, HK1, HO_9, HB⟩ := hrel
            cases gk with
            | zero => exact absurd HA.out (by simp [vinculumref04_Join.l0])
            | succ k1 =>
              have H := HA.out
              clear HA
              simp only [vinculumref04_Join.l0] at H
              by_cases c24 : x10_1 < (l3.length : Int)
              · rw [if_pos c24] at H
                have c24b0 : decide (x10_1 < (l3.length : Int)) = true := decide_eq_true c24
                clear c24
                by_cases c25 : 0 ≤ x10_1
                · rw [if_pos c25] at H
                  have c25b0 : decide (0 ≤ x10_1) = true := decide_eq_true c25
                  clear c25
                  replace H := Option.bind_eq_some_iff.mp H
                  obtain ⟨t156, A260, H⟩ := H
                  replace H : (if x9_1.length + t156.length < 140737488355328 then (vinculumref04_Join.l0 k1 l3 (x9_1 ++ t156) (wrap64 (x10_1 + 1))) else (none)) = some r := H
                  have A26 := Aside0.mk A260
                  clear A260
                  by_cases c27 : x9_1.length + t156.length < 140737488355328
                  · rw [if_pos c27] at H
                    have LMc27 := Aside0.mk c27
                    clear c27
                    obtain ⟨y159, hy159⟩ : ∃ y_ : List Int, y_ = (x9_1 ++ t156) := ⟨_, rfl⟩
                    replace H : (vinculumref04_Join.l0 k1 l3 y159 (wrap64 (x10_1 + 1))) = some r := by first | (rw [hy159]; with_reducible exact H) | (have H2_ := (Option.bind_some _ _).symm.trans H; rw [hy159]; with_reducible exact H2_) | (have H2_ := (Option.bind_some _ _).symm.trans H; with_reducible exact H2_) | with_reducible exact H | (rw [hy159]; exact H) | exact H
                    have Ny159 := Aside0.mk hy159
                    clear hy159
                    have H' := Aside0.mk H
                    clear H
                    have p155 : 0 ≤ (x10_1 : Int) := of_decide_eq_true (by first | (with_reducible assumption) | assumption)
                    have q155 : x10_1 < (l3.length : Int) := of_decide_eq_true (by first | (with_reducible assumption) | assumption)
                    obtain ⟨ad155, e155, hx155_0⟩ := Kd.at_int HR3.out x10_1 p155 q155
                    cases e155
                    replace hx155_0 := (HB.out.cell (World.block_lt_of_cell? w _ hx155_0)).trans hx155_0
                    replace p155 := eq_true p155
                    replace q155 := eq_true q155
                    go_wp2_with (first | ((with_reducible refine gate_callee (f := 23) rfl ?_); refine goesL_ (some 43) rfl rfl Try.func23 (by kernel_rfl) rfl #[.int .u64 (rd l3 x10_1)] rfl (by (try simp only [List.map_toArray, List.map_cons, List.map_nil]); first | done | rfl | (simp only [List.length_drop, List.length_take]; rfl)) ?_; (with_reducible refine (vinculumref04_Eight.calls k1 (rd l3 x10_1) t156 _ A26.out).mono ?_); rintro e w28 ⟨v157, rfl, ho0, hb⟩; refine ⟨_, rfl, ?_⟩; have n0_ := Aside0.mk (Kd.R_elder' (by (with_reducible repeat (first | apply Kd.R_alloc | apply Kd.R_drewN | apply Kd.R_drew)); exact HO_9.out) (Kd.R_base ho0) hb); have n1_ := Aside0.mk (Kd.R_lower (Kd.R_new' ho0 (Kd.R_lt (by (with_reducible repeat (first | apply Kd.R_alloc | apply Kd.R_drewN | apply Kd.R_drew)); exact HO_9.out))) (below_size (by repeat (first | (with_reducible first | exact HB.out | apply below_alloc | apply pw_below_drewN | apply below_drew1) | exact HB.out)))); have n2_ := Aside0.mk (below_step (by repeat (first | (with_reducible first | exact HB.out | apply below_alloc | apply pw_below_drewN | apply below_drew1) | exact HB.out)) hb); clear HO_9; clear HB; have HO_9 := n0_; have HO158 := n1_; have HB := n2_; clear n0_ n1_ n2_; (try clear hb); (try clear hb2); (try clear hk); (try clear hi); (try clear ho0); obtain ⟨Ao30, co30, eo30⟩ := Kd.R_slice HO158.out; subst eo30) | ((with_reducible refine gate_builtin (b := .append) (xs := #[.tmp 38, .tmp 43]) rfl ?_); at_builtin; refine Kd.R_append_rows (Kd.int .u8) (w0 := w) w.heap.size rfl (.tmp 38) (.tmp 43) 23 5 (.int .u8 0) 1 rfl Try.underlying23 info5 rfl (by decide) (by omega) u9 x9_1 t156 _ _ _ (fun k_ => some k_ ≠ (.slice Ao30 t156.length co30 : Value).ownBlock) (fun _ => False) rfl rfl ?aO ?aR (fun _ _ h => h) (fun _ h => h.elim) ?aF ?aB ?aS ?aL ?_; (case aR => repeat (first | exact (Kd.R_reads' HO158.out).2.2 | (with_reducible refine Kd.C_alloc ?_ _) | (with_reducible refine Kd.C_drewN ?_ _) | (with_reducible refine Kd.C_drew ?_))); (case aB => exact (by repeat (first | (with_reducible first | exact HB.out | apply below_alloc | apply pw_below_drewN | apply below_drew1) | exact HB.out))); (case aF => exact (fun k_ hk => Kd.fresh' (Kd.R_lt (by (with_reducible repeat (first | apply Kd.R_alloc | apply Kd.R_drewN | apply Kd.R_drew)); exact HO158.out)) k_ hk)); (case aO => exact (by (with_reducible repeat (first | apply Kd.R_alloc | apply Kd.R_drewN | apply Kd.R_drew)); exact Kd.R_mono HO_9.out (fun _ hk => hk.2))); (case aS => exact (below_size (by repeat (first | (with_reducible first | exact HB.out | apply below_alloc | apply pw_below_drewN | apply below_drew1) | exact HB.out)))); (case aL => have := LMc27.out; omega); intro v160 w29 ho hb hg hat; rw [← Ny159.out] at ho; have n0_ := Aside0.mk (Kd.R_after (ok := (fun _ => True)) (by (with_reducible repeat (first | apply Kd.R_alloc | apply Kd.R_drewN | apply Kd.R_drew)); exact HO158.out) hg hat); have n1_ := Aside0.mk (hb); have n2_ := Aside0.mk (ho); clear HO158; clear HB; clear HO_9; have HO158 := n0_; have HB := n1_; have HO161 := n2_; clear n0_ n1_ n2_; clear ho hb hg hat))
                    go_roundg k1
                    case measure => have := HK1.out; omega
                    case rel => exact ⟨(y159), (wrap64 (x10_1 + 1)), (by first | rfl | (simp; done) | (simp [*]; done)), H', ⟨by have := HK1.out; omega⟩, ⟨by (with_reducible repeat (first | apply Kd.R_alloc | apply Kd.R_drewN | apply Kd.R_drew)); exact Kd.R_mono HO161.out (fun _ hk => trivial)⟩, ⟨by repeat (first | (with_reducible first | exact HB.out | apply below_alloc | apply pw_below_drewN | apply below_drew1) | exact HB.out)⟩⟩
                  · rw [if_neg c27] at H
                    exact absurd H (by simp)
                · rw [if_neg c25] at H
                  exact absurd H (by simp)
              · rw [if_neg c24] at H
                have c24b0 : decide (x10_1 < (l3.length : Int)) = false := decide_eq_false c24
                clear c24
                replace H := Option.bind_eq_some_iff.mp H
                obtain ⟨t162, A310, H⟩ := H
                replace H : (some t162) = some r := H
                have A31 := Aside0.mk A310
                clear A310
                obtain rfl := Option.some.inj H
                obtain ⟨Ao32, co32, eo32⟩ := Kd.R_slice HO_9.out
                subst eo32
                go_wp2_with (first | ((with_reducible refine gate_callee (f := 12) rfl ?_); refine goesL_ (some 46) rfl rfl Try.func12 (by kernel_rfl) rfl #[.slice Ao32 x9_1.length co32] rfl (by (try simp only [List.map_toArray, List.map_cons, List.map_nil]); first | done | rfl | (simp only [List.length_drop, List.length_take]; rfl)) ?_; (with_reducible refine (vinculumref04_Bytes.calls k1 _ _ x9_1 t162 _ ?side1 ?side2 A31.out).mono ?_); (case side1 => repeat (first | exact (Kd.R_reads' HO_9.out).2.2 | (with_reducible refine Kd.C_alloc ?_ _) | (with_reducible refine Kd.C_drewN ?_ _) | (with_reducible refine Kd.C_drew ?_))); (case side2 => exact (Kd.R_reads' HO_9.out).2.1); rintro e w' ⟨rfl, ⟨nd, rfl⟩⟩; refine ⟨_, rfl, ?_⟩))
                go_ret
                exact ⟨by first | rfl | (simp [errW_none, errW_some] <;> rfl) | (simp [*, errW_none, errW_some] <;> rfl), by repeat (first | (with_reducible first | exact HB.out | apply below_alloc | apply pw_below_drewN | apply below_drew1) | exact HB.out)⟩
        · rw [if_neg c12] at H
          exact absurd H (by simp)
      · rw [if_neg c10] at H
        exact absurd H (by simp)
    · rw [if_neg c8] at H
      exact absurd H (by simp)
  · rw [if_neg c7] at H
    exact absurd H (by simp)

end Go.Proofs.Ytojanhinfgjjiaa.PK
