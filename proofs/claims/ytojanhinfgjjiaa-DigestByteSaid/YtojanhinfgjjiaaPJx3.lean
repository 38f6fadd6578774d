-- Written by a program of this place (wip/gen.py) with the kit's print; not trusted: Lean checks it.
import Derived.Test.YtojanhinfgjjiaaPJx0
import Derived.Test.YtojanhinfgjjiaaPJx1
import Derived.Test.YtojanhinfgjjiaaPJx2
namespace Go.Proofs.Ytojanhinfgjjiaa.PJ
open Go.RowKit Go.Proofs.YtojanhinfgjjiaaW.PrintWords Go.Proofs.YtojanhinfgjjiaaW.PrintLast Go.Proofs.YtojanhinfgjjiaaW.PrintMore
attribute [local go_sem] max2_int min2_int max_two min_two max_three min_three max_four min_four   -- for this text's walks alone
set_option linter.unusedVariables false
set_option linter.unusedSimpArgs false

/-! ### digest_Join: function 15 -/
def digest_Join.l0 : Nat → List Int → List Int → Int → Int → Option (Int)
  | 0, _, _, _, _ => none
  | k + 1, x9, x32, x33, x34 => if x34 < x33 then (if 0 ≤ x34 then (if x34 < (x32.length : Int) then ((digest_number.f k x9 (rd x32 x34)).bind fun t137 => (digest_Join.l0 k t137 x32 x33 (wrap64 (x34 + 1)))) else (none)) else (none)) else ((digest_Bytes.f k x9).bind fun t140 => (some t140))
def digest_Join.f (k : Nat) (a0 : Int) (a1 : ByteArray) (a2 : Int) (l3 : List Int) : Option (Int) := (digest_number.f k ([] : List Int) (IntKind.u64.wrap (a0))).bind fun t121 => ((digest_number.f k t121 (IntKind.u64.wrap ((a1.size : Int)))).bind fun t124 => (if t124.length + a1.size < 140737488355328 then ((digest_number.f k (t124 ++ bytesOf a1) (IntKind.u64.wrap (a2))).bind fun t130 => ((digest_number.f k t130 (IntKind.u64.wrap ((l3.length : Int)))).bind fun t133 => (digest_Join.l0 k t133 l3 (l3.length : Int) 0))) else (none)))
theorem digest_Join.mono_l : ∀ k, (∀ y0 y1 y2 y3, LeO (digest_Join.l0 k y0 y1 y2 y3) (digest_Join.l0 (k + 1) y0 y1 y2 y3))
  | 0 => fun _ _ _ _ r h => by simp [digest_Join.l0] at h
  | k + 1 => by
    have ih0 := digest_Join.mono_l k
    · intro y0 y1 y2 y3
      unfold digest_Join.l0
      repeat' first
      | (with_reducible exact ih0 _ _ _ _)
      | (with_reducible exact digest_Bytes.mono _ _)
      | (with_reducible exact digest_number.mono _ _ _)
      | (with_reducible exact LeO.refl _)
      | (with_reducible exact LeO.none _)
      | (with_reducible refine LeO.ite ?_ ?_)
      | (with_reducible refine LeO.bind ?_ (fun _ => ?_))
      | exact ih0 _ _ _ _
      | exact digest_Bytes.mono _ _
      | exact digest_number.mono _ _ _
      | exact LeO.none _
      | refine LeO.ite ?_ ?_
      | refine LeO.bind ?_ (fun _ => ?_)
theorem digest_Join.mono : ∀ a0 a1 a2 a3 k, LeO (digest_Join.f k a0 a1 a2 a3) (digest_Join.f (k + 1) a0 a1 a2 a3) := by
  intro a0 a1 a2 a3 k
  have ih0 := digest_Join.mono_l k
  unfold digest_Join.f
  repeat' first
      | (with_reducible exact ih0 _ _ _ _)
      | (with_reducible exact digest_Bytes.mono _ _)
      | (with_reducible exact digest_number.mono _ _ _)
      | (with_reducible exact LeO.refl _)
      | (with_reducible exact LeO.none _)
      | (with_reducible refine LeO.ite ?_ ?_)
      | (with_reducible refine LeO.bind ?_ (fun _ => ?_))
      | exact ih0 _ _ _ _
      | exact digest_Bytes.mono _ _
      | exact digest_number.mono _ _ _
      | exact LeO.none _
      | refine LeO.ite ?_ ?_
      | refine LeO.bind ?_ (fun _ => ?_)
set_option maxHeartbeats 8000000 in
set_option maxRecDepth 100000 in
theorem digest_Join.calls (k : Nat) (a0 : Int) (a1 : ByteArray) (a2 : Int) (A3 : Option Addr) (c3 : Nat) (l3 : List Int) (r : Int) (w : World) (hr3 : Kd.C (Kd.int .u64) w A3 l3.length l3) (hc3 : l3.length ≤ c3) (h : digest_Join.f k a0 a1 a2 l3 = some r) :
    Calls Try.prog 15 #[.int .i64 a0, .string a1, .int .i64 a2, .slice A3 l3.length c3] w fun e w' => e = .returned (.int .u64 r) ∧ Below w.heap.size w w' := by
  have HR3 := Aside0.mk hr3
  have HC3 := Aside0.mk hc3
  clear hr3 hc3
  have HB := Aside0.mk (Below.refl w.heap.size w)
  have H : ((digest_number.f k ([] : List Int) (IntKind.u64.wrap (a0))).bind fun t121 => ((digest_number.f k t121 (IntKind.u64.wrap ((a1.size : Int)))).bind fun t124 => (if t124.length + a1.size < 140737488355328 then ((digest_number.f k (t124 ++ bytesOf a1) (IntKind.u64.wrap (a2))).bind fun t130 => ((digest_number.f k t130 (IntKind.u64.wrap ((l3.length : Int)))).bind fun t133 => (digest_Join.l0 k t133 l3 (l3.length : Int) 0))) else (none)))) = some r := h
  clear h
  replace H := Option.bind_eq_some_iff.mp H
  obtain ⟨t121, A50, H⟩ := H
  replace H : ((digest_number.f k t121 (IntKind.u64.wrap ((a1.size : Int)))).bind fun t124 => (if t124.length + a1.size < 140737488355328 then ((digest_number.f k (t124 ++ bytesOf a1) (IntKind.u64.wrap (a2))).bind fun t130 => ((digest_number.f k t130 (IntKind.u64.wrap ((l3.length : Int)))).bind fun t133 => (digest_Join.l0 k t133 l3 (l3.length : Int) 0))) else (none))) = some r := H
  have A5 := Aside0.mk A50
  clear A50
  replace H := Option.bind_eq_some_iff.mp H
  obtain ⟨t124, A60, H⟩ := H
  replace H : (if t124.length + a1.size < 140737488355328 then ((digest_number.f k (t124 ++ bytesOf a1) (IntKind.u64.wrap (a2))).bind fun t130 => ((digest_number.f k t130 (IntKind.u64.wrap ((l3.length : Int)))).bind fun t133 => (digest_Join.l0 k t133 l3 (l3.length : Int) 0))) else (none)) = some r := H
  have A6 := Aside0.mk A60
  clear A60
  by_cases c7 : t124.length + a1.size < 140737488355328
  · rw [if_pos c7] at H
    have LMc7 := Aside0.mk c7
    clear c7
    obtain ⟨y127, hy127⟩ : ∃ y_ : List Int, y_ = (t124 ++ bytesOf a1) := ⟨_, rfl⟩
    replace H : ((digest_number.f k y127 (IntKind.u64.wrap (a2))).bind fun t130 => ((digest_number.f k t130 (IntKind.u64.wrap ((l3.length : Int)))).bind fun t133 => (digest_Join.l0 k t133 l3 (l3.length : Int) 0))) = some r := by first | (rw [hy127]; with_reducible exact H) | (have H2_ := (Option.bind_some _ _).symm.trans H; rw [hy127]; with_reducible exact H2_) | (have H2_ := (Option.bind_some _ _).symm.trans H; with_reducible exact H2_) | with_reducible exact H | (rw [hy127]; exact H) | exact H
    have Ny127 := Aside0.mk hy127
    clear hy127
    replace H := Option.bind_eq_some_iff.mp H
    obtain ⟨t130, A80, H⟩ := H
    replace H : ((digest_number.f k t130 (IntKind.u64.wrap ((l3.length : Int)))).bind fun t133 => (digest_Join.l0 k t133 l3 (l3.length : Int) 0)) = some r := H
    have A8 := Aside0.mk A80
    clear A80
    replace H := Option.bind_eq_some_iff.mp H
    obtain ⟨t133, A90, H⟩ := H
    replace H : (digest_Join.l0 k t133 l3 (l3.length : Int) 0) = some r := H
    have A9 := Aside0.mk A90
    clear A90
    have H' := Aside0.mk H
    clear H
    go_enter Try.func15, Try.ntmps15
    go_wp2_with (first | ((with_reducible refine gate_callee (f := 22) rfl ?_); refine goesL_ (some 14) rfl rfl Try.func22 (by kernel_rfl) rfl #[.slice none 0 0, .int .u64 (IntKind.u64.wrap (a0))] rfl (by (try simp only [List.map_toArray, List.map_cons, List.map_nil]); first | done | rfl | (simp only [List.length_drop, List.length_take]; rfl)) ?_; (refine (digest_number.calls k (fun k_ => some k_ = (.slice none 0 0 : Value).ownBlock) (.slice none 0 0) ([] : List Int) (IntKind.u64.wrap (a0)) t121 w _ ?side1 ?side2 A5.out).mono ?_); (case side1 => repeat (first | (with_reducible first | exact HB.out | apply below_alloc | apply pw_below_drewN | apply below_drew1) | exact HB.out)); (case side2 => exact Kd.R_nil _ _ _ _ _); rintro e w10 ⟨v122, rfl, ho0, hb, hkp⟩; refine ⟨_, rfl, ?_⟩; have n0_ := Aside0.mk (Kd.R_mono (ok' := fun k_ => True) ho0 (fun k_ hk_ => trivial)); have n1_ := Aside0.mk (hb); clear HB; have HO123 := n0_; have HB := n1_; clear n0_ n1_; (try clear hb); (try clear hkp); (try clear ho0); obtain ⟨Ao11, co11, eo11⟩ := Kd.R_slice HO123.out; subst eo11) | ((with_reducible refine gate_callee (f := 22) rfl ?_); refine goesL_ (some 19) rfl rfl Try.func22 (by kernel_rfl) rfl #[.slice Ao11 t121.length co11, .int .u64 (IntKind.u64.wrap ((a1.size : Int)))] rfl (by (try simp only [List.map_toArray, List.map_cons, List.map_nil]); first | done | rfl | (simp only [List.length_drop, List.length_take]; rfl)) ?_; (with_reducible refine (digest_number.calls k (fun k_ => some k_ = (.slice Ao11 t121.length co11 : Value).ownBlock) (.slice Ao11 t121.length co11) t121 (IntKind.u64.wrap ((a1.size : Int))) t124 w _ ?side1 ?side2 A6.out).mono ?_); (case side1 => repeat (first | (with_reducible first | exact HB.out | apply below_alloc | apply pw_below_drewN | apply below_drew1) | exact HB.out)); (case side2 => exact Kd.R_tight rfl HO123.out); rintro e w12 ⟨v125, rfl, ho0, hb, hkp⟩; refine ⟨_, rfl, ?_⟩; have n0_ := Aside0.mk (Kd.R_mono (ok' := fun k_ => True) ho0 (fun k_ hk_ => trivial)); have n1_ := Aside0.mk (hb); clear HB; clear HO123; have HO126 := n0_; have HB := n1_; clear n0_ n1_; (try clear hb); (try clear hkp); (try clear ho0)) | (at_builtin; refine print_append_str (w0 := w) w.heap.size rfl (.tmp 20) _ 23 9 5 rfl Try.underlying23 Try.underlying9 info5 v125 t124 a1 rfl rfl ?aO ?aB ?aS ?aL ?_; (case aB => exact (by repeat (first | (with_reducible first | exact HB.out | apply below_alloc | apply pw_below_drewN | apply below_drew1) | exact HB.out))); (case aO => exact (Kd.own_of_R (by (with_reducible repeat (first | apply Kd.R_alloc | apply Kd.R_drewN | apply Kd.R_drew)); exact HO126.out))); (case aS => exact (below_size (by repeat (first | (with_reducible first | exact HB.out | apply below_alloc | apply pw_below_drewN | apply below_drew1) | exact HB.out)))); (case aL => have := LMc7.out; omega); intro v128 w13 ho0 hb hg; have ho := Kd.R_of_own (h1 := fun _ => rfl) (ok := fun _ => True) ho0 (fun _ _ => trivial); clear ho0; have hat := True.intro; rw [← Ny127.out] at ho; change Kd.R (Kd.int .u8) 5 w13 w.heap.size (fun _ => True) v128 y127 at ho; have n0_ := Aside0.mk (hb); have n1_ := Aside0.mk (ho); clear HB; clear HO126; have HB := n0_; have HO129 := n1_; clear n0_ n1_; clear ho hb hg hat; obtain ⟨Ao14, co14, eo14⟩ := Kd.R_slice HO129.out; subst eo14) | ((with_reducible refine gate_callee (f := 22) rfl ?_); refine goesL_ (some 26) rfl rfl Try.func22 (by kernel_rfl) rfl #[.slice Ao14 y127.length co14, .int .u64 (IntKind.u64.wrap (a2))] rfl (by (try simp only [List.map_toArray, List.map_cons, List.map_nil]); first | done | rfl | (simp only [List.length_drop, List.length_take]; rfl)) ?_; (with_reducible refine (digest_number.calls k (fun k_ => some k_ = (.slice Ao14 y127.length co14 : Value).ownBlock) (.slice Ao14 y127.length co14) y127 (IntKind.u64.wrap (a2)) t130 w _ ?side1 ?side2 A8.out).mono ?_); (case side1 => repeat (first | (with_reducible first | exact HB.out | apply below_alloc | apply pw_below_drewN | apply below_drew1) | exact HB.out)); (case side2 => exact Kd.R_tight rfl HO129.out); rintro e w15 ⟨v131, rfl, ho0, hb, hkp⟩; refine ⟨_, rfl, ?_⟩; have n0_ := Aside0.mk (Kd.R_mono (ok' := fun k_ => True) ho0 (fun k_ hk_ => trivial)); have n1_ := Aside0.mk (hb); clear HB; clear HO129; have HO132 := n0_; have HB := n1_; clear n0_ n1_; (try clear hb); (try clear hkp); (try clear ho0); obtain ⟨Ao16, co16, eo16⟩ := Kd.R_slice HO132.out; subst eo16) | ((with_reducible refine gate_callee (f := 22) rfl ?_); refine goesL_ (some 31) rfl rfl Try.func22 (by kernel_rfl) rfl #[.slice Ao16 t130.length co16, .int .u64 (IntKind.u64.wrap ((l3.length : Int)))] rfl (by (try simp only [List.map_toArray, List.map_cons, List.map_nil]); first | done | rfl | (simp only [List.length_drop, List.length_take]; rfl)) ?_; (with_reducible refine (digest_number.calls k (fun k_ => some k_ = (.slice Ao16 t130.length co16 : Value).ownBlock) (.slice Ao16 t130.length co16) t130 (IntKind.u64.wrap ((l3.length : Int))) t133 w _ ?side1 ?side2 A9.out).mono ?_); (case side1 => repeat (first | (with_reducible first | exact HB.out | apply below_alloc | apply pw_below_drewN | apply below_drew1) | exact HB.out)); (case side2 => exact Kd.R_tight rfl HO132.out); rintro e w17 ⟨v134, rfl, ho0, hb, hkp⟩; refine ⟨_, rfl, ?_⟩; have n0_ := Aside0.mk (Kd.R_mono (ok' := fun k_ => True) ho0 (fun k_ hk_ => trivial)); have n1_ := Aside0.mk (hb); clear HB; clear HO132; have HO135 := n0_; have HB := n1_; clear n0_ n1_; (try clear hb); (try clear hkp); (try clear ho0)))
    go_loopg [9, 34] k (fun kq v9 v34 w' => ∃ (x9_1 : List Int) (x34_1 : Int), v34 = .int .i64 x34_1 ∧ Aside0 (digest_Join.l0 kq x9_1 l3 (l3.length : Int) x34_1 = some r) ∧ Aside0 (kq ≤ k) ∧ Aside0 (Kd.R (Kd.int .u8) 5 w' w.heap.size (fun _ => True) v9 x9_1) ∧ Aside0 (Below w.heap.size w w'))
    case atStart => exact ⟨(t133), (0), (by first | rfl | (simp; done) | (simp [*]; done)), H', ⟨Nat.le_refl _⟩, ⟨by (with_reducible repeat (first | apply Kd.R_alloc | apply Kd.R_drewN | apply Kd.R_drew)); exact HO135.out⟩, ⟨by repeat (first | (with_reducible first | exact HB.out | apply below_alloc | apply pw_below_drewN | apply below_drew1) | exact HB.out)⟩⟩
    case round =>
      clear H'
      try clear c1
      try clear c2
      try clear p2
      try clear c3
      try clear c7
      try clear c15
      obtain ⟨x9_1, x34_1, rfl, HA, HK1, HO_9, HB⟩ := hrel
      cases gk with
      | zero => exact absurd HA.out (by simp [digest_Join.l0])
      | succ k1 =>
        have H := HA.out
        clear HA
        simp only [digest_Join.l0] at H
        by_cases c18 : x34_1 < (l3.length : Int)
        · rw [if_pos c18] at H
          have c18b0 : decide (x34_1 < (l3.length : Int)) = true := decide_eq_true c18
          clear c18
          by_cases c19 : 0 ≤ x34_1
          · rw [if_pos c19] at H
            have c19b0 : decide (0 ≤ x34_1) = true := decide_eq_true c19
            clear c19
            by_cases c20 : x34_1 < (l3.length : Int)
            · rw [if_pos c20] at H
              have c20b0 : decide (x34_1 < (l3.length : Int)) = true := decide_eq_true c20
              clear c20
              replace H := Option.bind_eq_some_iff.mp H
              obtain ⟨t137, A210, H⟩ := H
              replace H : (digest_Join.l0 k1 t137 l3 (l3.length : Int) (wrap64 (x34_1 + 1))) = some r := H
              have A21 := Aside0.mk A210
              clear A210
              have H' := Aside0.mk H
              clear H
              have p136 : 0 ≤ (x34_1 : Int) := of_decide_eq_true (by first | (with_reducible assumption) | assumption)
              have q136 : x34_1 < (l3.length : Int) := of_decide_eq_true (by first | (with_reducible assumption) | assumption)
              obtain ⟨ad136, e136, hx136_0⟩ := Kd.at_int HR3.out x34_1 p136 q136
              cases e136
              replace hx136_0 := (HB.out.cell (World.block_lt_of_cell? w _ hx136_0)).trans hx136_0
              replace p136 := eq_true p136
              replace q136 := eq_true q136
              obtain ⟨Ao22, co22, eo22⟩ := Kd.R_slice HO_9.out
              subst eo22
              go_wp2_with (first | ((with_reducible refine gate_callee (f := 22) rfl ?_); refine goesL_ (some 40) rfl rfl Try.func22 (by kernel_rfl) rfl #[.slice Ao22 x9_1.length co22, .int .u64 (rd l3 x34_1)] rfl (by (try simp only [List.map_toArray, List.map_cons, List.map_nil]); first | done | rfl | (simp only [List.length_drop, List.length_take]; rfl)) ?_; (with_reducible refine (digest_number.calls k1 (fun k_ => some k_ = (.slice Ao22 x9_1.length co22 : Value).ownBlock) (.slice Ao22 x9_1.length co22) x9_1 (rd l3 x34_1) t137 w _ ?side1 ?side2 A21.out).mono ?_); (case side1 => repeat (first | (with_reducible first | exact HB.out | apply below_alloc | apply pw_below_drewN | apply below_drew1) | exact HB.out)); (case side2 => exact Kd.R_tight rfl HO_9.out); rintro e w23 ⟨v138, rfl, ho0, hb, hkp⟩; refine ⟨_, rfl, ?_⟩; have n0_ := Aside0.mk (Kd.R_mono (ok' := fun k_ => True) ho0 (fun k_ hk_ => trivial)); have n1_ := Aside0.mk (hb); clear HB; clear HO_9; have HO139 := n0_; have HB := n1_; clear n0_ n1_; (try clear hb); (try clear hkp); (try clear ho0)))
              go_roundg k1
              case measure => have := HK1.out; omega
              case rel => exact ⟨(t137), (wrap64 (x34_1 + 1)), (by first | rfl | (simp; done) | (simp [*]; done)), H', ⟨by have := HK1.out; omega⟩, ⟨by (with_reducible repeat (first | apply Kd.R_alloc | apply Kd.R_drewN | apply Kd.R_drew)); exact HO139.out⟩, ⟨by repeat (first | (with_reducible first | exact HB.out | apply below_alloc | apply pw_below_drewN | apply below_drew1) | exact HB.out)⟩⟩
            · rw [if_neg c20] at H
              exact absurd H (by simp)
          · rw [if_neg c19] at H
            exact absurd H (by simp)
        · rw [if_neg c18] at H
          have c18b0 : decide (x34_1 < (l3.length : Int)) = false := decide_eq_false c18
          clear c18
          replace H := Option.bind_eq_some_iff.mp H
          obtain ⟨t140, A240, H⟩ := H
          replace H : (some t140) = some r := H
          have A24 := Aside0.mk A240
          clear A240
          obtain rfl := Option.some.inj H
          obtain ⟨Ao25, co25, eo25⟩ := Kd.R_slice HO_9.out
          subst eo25
          go_wp2_with (first | ((with_reducible refine gate_callee (f := 11) rfl ?_); refine goesL_ (some 43) rfl rfl Try.func11 (by kernel_rfl) rfl #[.slice Ao25 x9_1.length co25] rfl (by (try simp only [List.map_toArray, List.map_cons, List.map_nil]); first | done | rfl | (simp only [List.length_drop, List.length_take]; rfl)) ?_; (with_reducible refine (digest_Bytes.calls k1 _ _ x9_1 t140 _ ?side1 ?side2 A24.out).mono ?_); (case side1 => repeat (first | exact (Kd.R_reads' HO_9.out).2.2 | (with_reducible refine Kd.C_alloc ?_ _) | (with_reducible refine Kd.C_drewN ?_ _) | (with_reducible refine Kd.C_drew ?_))); (case side2 => exact (Kd.R_reads' HO_9.out).2.1); rintro e w' ⟨rfl, ⟨nd, rfl⟩⟩; refine ⟨_, rfl, ?_⟩))
          go_ret
          exact ⟨by first | rfl | (simp [errW_none, errW_some] <;> rfl) | (simp [*, errW_none, errW_some] <;> rfl), by repeat (first | (with_reducible first | exact HB.out | apply below_alloc | apply pw_below_drewN | apply below_drew1) | exact HB.out)⟩
  · rw [if_neg c7] at H
    exact absurd H (by simp)

/-! ### vinculumref04_Update: function 14 -/
def vinculumref04_Update.l0 : Nat → Int → List Int → Int → Option (Int)
  | 0, _, _, _ => none
  | k + 1, x0, x1, x5 => if x5 < (x1.length : Int) then (if 0 ≤ x5 then (vinculumref04_Update.l0 k (IntKind.u64.wrap ((Go.bits .xor .u64 x0 (IntKind.u64.wrap (rd x1 x5))) * 1099511628211)) x1 (wrap64 (x5 + 1))) else (none)) else (some x0)
def vinculumref04_Update.f (k : Nat) (a0 : Int) (l1 : List Int) : Option (Int) := vinculumref04_Update.l0 k a0 l1 0
theorem vinculumref04_Update.mono_l : ∀ k, (∀ y0 y1 y2, LeO (vinculumref04_Update.l0 k y0 y1 y2) (vinculumref04_Update.l0 (k + 1) y0 y1 y2))
  | 0 => fun _ _ _ r h => by simp [vinculumref04_Update.l0] at h
  | k + 1 => by
    have ih0 := vinculumref04_Update.mono_l k
    · intro y0 y1 y2
      unfold vinculumref04_Update.l0
      repeat' first
      | (with_reducible exact ih0 _ _ _)
      | (with_reducible exact LeO.refl _)
      | (with_reducible exact LeO.none _)
      | (with_reducible refine LeO.ite ?_ ?_)
      | (with_reducible refine LeO.bind ?_ (fun _ => ?_))
      | exact ih0 _ _ _
      | exact LeO.none _
      | refine LeO.ite ?_ ?_
      | refine LeO.bind ?_ (fun _ => ?_)
theorem vinculumref04_Update.mono : ∀ a0 a1 k, LeO (vinculumref04_Update.f k a0 a1) (vinculumref04_Update.f (k + 1) a0 a1) := by
  intro a0 a1 k
  have ih0 := vinculumref04_Update.mono_l k
  unfold vinculumref04_Update.f
  repeat' first
      | (with_reducible exact ih0 _ _ _)
      | (with_reducible exact LeO.refl _)
      | (with_reducible exact LeO.none _)
      | (with_reducible refine LeO.ite ?_ ?_)
      | (with_reducible refine LeO.bind ?_ (fun _ => ?_))
      | exact ih0 _ _ _
      | exact LeO.none _
      | refine LeO.ite ?_ ?_
      | refine LeO.bind ?_ (fun _ => ?_)
set_option maxHeartbeats 8000000 in
set_option maxRecDepth 100000 in
theorem vinculumref04_Update.calls (k : Nat) (a0 : Int) (A1 : Option Addr) (c1 : Nat) (l1 : List Int) (r : Int) (w : World) (hr1 : Kd.C (Kd.int .u8) w A1 l1.length l1) (hc1 : l1.length ≤ c1) (h : vinculumref04_Update.f k a0 l1 = some r) :
    Calls Try.prog 14 #[.int .u64 a0, .slice A1 l1.length c1] w fun e w' => e = .returned (.int .u64 r) ∧ Drawn0 w w' := by
  have HR1 := Aside0.mk hr1
  have HC1 := Aside0.mk hc1
  clear hr1 hc1
  have H : (vinculumref04_Update.l0 k a0 l1 0) = some r := h
  clear h
  have H' := Aside0.mk H
  clear H
  go_enter Try.func14, Try.ntmps14
  go_wp2
  go_loopg [0, 5] k (fun kq v0 v5 w' => ∃ (x0_1 : Int) (x5_1 : Int), v0 = .int .u64 x0_1 ∧ v5 = .int .i64 x5_1 ∧ Aside0 (vinculumref04_Update.l0 kq x0_1 l1 x5_1 = some r) ∧ Aside0 (kq ≤ k) ∧ Drawn0 w w')
  case atStart => exact ⟨(a0), (0), (by first | rfl | (simp; done) | (simp [*]; done)), (by first | rfl | (simp; done) | (simp [*]; done)), H', ⟨Nat.le_refl _⟩, by repeat (first | exact Drawn0.refl _ | apply Drawn0.step)⟩
  case round =>
    clear H'
    try clear c1
    try clear p2
    obtain ⟨x0_1, x5_1, rfl, rfl, HA, HK1, ⟨m1, rfl⟩⟩ := hrel
    cases gk with
    | zero => exact absurd HA.out (by simp [vinculumref04_Update.l0])
    | succ k1 =>
      have H := HA.out
      clear HA
      simp only [vinculumref04_Update.l0] at H
      by_cases c3 : x5_1 < (l1.length : Int)
      · rw [if_pos c3] at H
        have c3b0 : decide (x5_1 < (l1.length : Int)) = true := decide_eq_true c3
        clear c3
        by_cases c4 : 0 ≤ x5_1
        · rw [if_pos c4] at H
          have c4b0 : decide (0 ≤ x5_1) = true := decide_eq_true c4
          clear c4
          have H' := Aside0.mk H
          clear H
          have p141 : 0 ≤ (x5_1 : Int) := of_decide_eq_true (by first | (with_reducible assumption) | assumption)
          have q141 : x5_1 < (l1.length : Int) := of_decide_eq_true (by first | (with_reducible assumption) | assumption)
          obtain ⟨ad141, e141, hx141_0⟩ := Kd.at_int HR1.out x5_1 p141 q141
          cases e141
          replace p141 := eq_true p141
          replace q141 := eq_true q141
          go_wp2
          go_roundg k1
          case measure => have := HK1.out; omega
          case rel => exact ⟨(IntKind.u64.wrap ((Go.bits .xor .u64 x0_1 (IntKind.u64.wrap (rd l1 x5_1))) * 1099511628211)), (wrap64 (x5_1 + 1)), (by first | rfl | (simp; done) | (simp [*]; done)), (by first | rfl | (simp; done) | (simp [*]; done)), H', ⟨by have := HK1.out; omega⟩, by repeat (first | exact Drawn0.refl _ | apply Drawn0.step)⟩
        · rw [if_neg c4] at H
          exact absurd H (by simp)
      · rw [if_neg c3] at H
        have c3b0 : decide (x5_1 < (l1.length : Int)) = false := decide_eq_false c3
        clear c3
        obtain rfl := Option.some.inj H
        go_wp2
        go_ret
        exact ⟨by first | rfl | (simp; done) | (simp [*]; done), by repeat (first | exact Drawn0.refl _ | apply Drawn0.step)⟩

/-! ### vinculumref04_Bytes: function 12 -/
def vinculumref04_Bytes.f (k : Nat) (l0 : List Int) : Option (Int) := (vinculumref04_Update.f k 14695981039346656037 l0).bind fun t142 => (some t142)
theorem vinculumref04_Bytes.mono : ∀ a0 k, LeO (vinculumref04_Bytes.f k a0) (vinculumref04_Bytes.f (k + 1) a0) := by
  intro a0 k
  unfold vinculumref04_Bytes.f
  repeat' first
      | (with_reducible exact vinculumref04_Update.mono _ _ _)
      | (with_reducible exact LeO.refl _)
      | (with_reducible exact LeO.none _)
      | (with_reducible refine LeO.ite ?_ ?_)
      | (with_reducible refine LeO.bind ?_ (fun _ => ?_))
      | exact vinculumref04_Update.mono _ _ _
      | exact LeO.none _
      | refine LeO.ite ?_ ?_
      | refine LeO.bind ?_ (fun _ => ?_)
set_option maxHeartbeats 8000000 in
set_option maxRecDepth 100000 in
theorem vinculumref04_Bytes.calls (k : Nat) (A0 : Option Addr) (c0 : Nat) (l0 : List Int) (r : Int) (w : World) (hr0 : Kd.C (Kd.int .u8) w A0 l0.length l0) (hc0 : l0.length ≤ c0) (h : vinculumref04_Bytes.f k l0 = some r) :
    Calls Try.prog 12 #[.slice A0 l0.length c0] w fun e w' => e = .returned (.int .u64 r) ∧ Drawn0 w w' := by
  have HR0 := Aside0.mk hr0
  have HC0 := Aside0.mk hc0
  clear hr0 hc0
  have H : ((vinculumref04_Update.f k 14695981039346656037 l0).bind fun t142 => (some t142)) = some r := h
  clear h
  replace H := Option.bind_eq_some_iff.mp H
  obtain ⟨t142, A20, H⟩ := H
  replace H : (some t142) = some r := H
  have A2 := Aside0.mk A20
  clear A20
  obtain rfl := Option.some.inj H
  go_enter Try.func12, Try.ntmps12
  go_wp2_with (first | ((with_reducible refine gate_callee (f := 14) rfl ?_); refine goesL_ (some 4) rfl rfl Try.func14 (by kernel_rfl) rfl #[.int .u64 14695981039346656037, .slice A0 l0.length c0] rfl (by (try simp only [List.map_toArray, List.map_cons, List.map_nil]); first | done | rfl | (simp only [List.length_drop, List.length_take]; rfl)) ?_; (with_reducible refine (vinculumref04_Update.calls k 14695981039346656037 _ _ l0 t142 _ ?side1 ?side2 A2.out).mono ?_); (case side1 => repeat (first | exact HR0.out | (with_reducible refine Kd.C_alloc ?_ _) | (with_reducible refine Kd.C_drewN ?_ _) | (with_reducible refine Kd.C_drew ?_))); (case side2 => exact HC0.out); rintro e w' ⟨rfl, ⟨nd, rfl⟩⟩; refine ⟨_, rfl, ?_⟩))
  go_ret
  exact ⟨by first | rfl | (simp; done) | (simp [*]; done), by repeat (first | exact Drawn0.refl _ | apply Drawn0.step)⟩

/-! ### vinculumref04_Eight: function 23 -/
def vinculumref04_Eight.l0 : Nat → Int → List Int → Int → Option (List Int)
  | 0, _, _, _ => none
  | k + 1, x0, x3, x4 => if x4 < 8 then (if 0 ≤ (wrap64 (56 - (wrap64 (8 * x4)))) then (if x3.length < 140737488355328 then (vinculumref04_Eight.l0 k x0 (x3 ++ [(shr .u64 x0 (wrap64 (56 - (wrap64 (8 * x4))))) % 256]) (wrap64 (x4 + 1))) else (none)) else (none)) else (some x3)
def vinculumref04_Eight.f (k : Nat) (a0 : Int) : Option (List Int) := vinculumref04_Eight.l0 k a0 ([] : List Int) 0
theorem vinculumref04_Eight.mono_l : ∀ k, (∀ y0 y1 y2, LeO (vinculumref04_Eight.l0 k y0 y1 y2) (vinculumref04_Eight.l0 (k + 1) y0 y1 y2))
  | 0 => fun _ _ _ r h => by simp [vinculumref04_Eight.l0] at h
  | k + 1 => by
    have ih0 := vinculumref04_Eight.mono_l k
    · intro y0 y1 y2
      unfold vinculumref04_Eight.l0
      repeat' first
      | (with_reducible exact ih0 _ _ _)
      | (with_reducible exact LeO.refl _)
      | (with_reducible exact LeO.none _)
      | (with_reducible refine LeO.ite ?_ ?_)
      | (with_reducible refine LeO.bind ?_ (fun _ => ?_))
      | exact ih0 _ _ _
      | exact LeO.none _
      | refine LeO.ite ?_ ?_
      | refine LeO.bind ?_ (fun _ => ?_)
theorem vinculumref04_Eight.mono : ∀ a0 k, LeO (vinculumref04_Eight.f k a0) (vinculumref04_Eight.f (k + 1) a0) := by
  intro a0 k
  have ih0 := vinculumref04_Eight.mono_l k
  unfold vinculumref04_Eight.f
  repeat' first
      | (with_reducible exact ih0 _ _ _)
      | (with_reducible exact LeO.refl _)
      | (with_reducible exact LeO.none _)
      | (with_reducible refine LeO.ite ?_ ?_)
      | (with_reducible refine LeO.bind ?_ (fun _ => ?_))
      | exact ih0 _ _ _
      | exact LeO.none _
      | refine LeO.ite ?_ ?_
      | refine LeO.bind ?_ (fun _ => ?_)
set_option maxHeartbeats 8000000 in
set_option maxRecDepth 100000 in
theorem vinculumref04_Eight.calls (k : Nat) (a0 : Int) (r : List Int) (w : World) (h : vinculumref04_Eight.f k a0 = some r) :
    Calls Try.prog 23 #[.int .u64 a0] w fun e w' => ∃ v0_ : Value, e = .returned (v0_) ∧ Kd.R (Kd.int .u8) 5 w' w.heap.size (fun _ => True) v0_ r ∧ Below w.heap.size w w' := by
  have HB := Aside0.mk (Below.refl w.heap.size w)
  have H : (vinculumref04_Eight.l0 k a0 ([] : List Int) 0) = some r := h
  clear h
  have H' := Aside0.mk H
  clear H
  go_enter Try.func23, Try.ntmps23
  go_wp2
  go_loopg [3, 4] k (fun kq v3 v4 w' => ∃ (x3_1 : List Int) (x4_1 : Int), v4 = .int .i64 x4_1 ∧ Aside0 (vinculumref04_Eight.l0 kq a0 x3_1 x4_1 = some r) ∧ Aside0 (kq ≤ k) ∧ Aside0 (Kd.R (Kd.int .u8) 5 w' w.heap.size (fun _ => True) v3 x3_1) ∧ Aside0 (Below w.heap.size w w'))
  case atStart => exact ⟨(([] : List Int)), (0), (by first | rfl | (simp; done) | (simp [*]; done)), H', ⟨Nat.le_refl _⟩, ⟨by first | exact Kd.R_nil _ _ _ _ _ | exact Kd.N_nil _ _ _ _ _ | exact Kd.V_nil _ _ _ _ _ | exact Kd.Q_nil _ _ _ _ _ | exact Kd.S_nil _ _ _ _ _⟩, ⟨by repeat (first | (with_reducible first | exact HB.out | apply below_alloc | apply pw_below_drewN | apply below_drew1) | exact HB.out)⟩⟩
  case round =>
    clear H'
    obtain ⟨x3_1, x4_1, rfl, HA, HK1, HO_3, HB⟩ := hrel
    cases gk with
    | zero => exact absurd HA.out (by simp [vinculumref04_Eight.l0])
    | succ k1 =>
      have H := HA.out
      clear HA
      simp only [vinculumref04_Eight.l0] at H
      by_cases c2 : x4_1 < 8
      · rw [if_pos c2] at H
        have c2b0 : decide (x4_1 < 8) = true := decide_eq_true c2
        clear c2
        obtain ⟨ji3, hji3⟩ : ∃ j_ : Int, (wrap64 (56 - (wrap64 (8 * x4_1)))) = j_ := ⟨_, rfl⟩
        replace H : (if 0 ≤ (ji3) then (if x3_1.length < 140737488355328 then (vinculumref04_Eight.l0 k1 a0 (x3_1 ++ [(shr .u64 a0 (ji3)) % 256]) (wrap64 (x4_1 + 1))) else (none)) else (none)) = some r := by first | (rw [hji3] at H; exact H) | (simp only [hji3] at H ⊢; exact H)
        have hji3w : (IntKind.i64.wrap (56 - (wrap64 (8 * x4_1)))) = ji3 := (i64_w _).trans hji3
        by_cases c4 : 0 ≤ (ji3)
        · rw [if_pos c4] at H
          have c4b0 := eq_true c4
          have c4b1 : decide (0 ≤ (ji3)) = true := decide_eq_true c4
          clear c4
          obtain ⟨ji5, hji5⟩ : ∃ j_ : Int, (shr .u64 a0 (ji3)) = j_ := ⟨_, rfl⟩
          replace H : (if x3_1.length < 140737488355328 then (vinculumref04_Eight.l0 k1 a0 (x3_1 ++ [(ji5) % 256]) (wrap64 (x4_1 + 1))) else (none)) = some r := by first | (rw [hji5] at H; exact H) | (simp only [hji5] at H ⊢; exact H)
          have hji5_ : (a0 / 2 ^ min (ji3).toNat 64) = ji5 := hji5
          have hji5z : (ji3) ≤ 64 → (a0 / 2 ^ (ji3).toNat) = ji5 := shr_small hji5
          by_cases c6 : x3_1.length < 140737488355328
          · rw [if_pos c6] at H
            have LMc6 := Aside0.mk c6
            clear c6
            obtain ⟨y143, hy143⟩ : ∃ y_ : List Int, y_ = (x3_1 ++ [(ji5) % 256]) := ⟨_, rfl⟩
            replace H : (vinculumref04_Eight.l0 k1 a0 y143 (wrap64 (x4_1 + 1))) = some r := by first | (rw [hy143]; with_reducible exact H) | (have H2_ := (Option.bind_some _ _).symm.trans H; rw [hy143]; with_reducible exact H2_) | (have H2_ := (Option.bind_some _ _).symm.trans H; with_reducible exact H2_) | with_reducible exact H | (rw [hy143]; exact H) | exact H
            have Ny143 := Aside0.mk hy143
            clear hy143
            have H' := Aside0.mk H
            clear H
            go_wp2_with (first | ((with_reducible refine gate_builtin (b := .append) (xs := #[.tmp 9, .tmp 16]) rfl ?_); at_builtin; refine Kd.R_append (Kd.int .u8) (w0 := w) w.heap.size rfl (.tmp 9) (.tmp 16) 23 5 (.int .u8 0) 1 rfl Try.underlying23 info5 rfl (by decide) (by omega) u3 x3_1 ((ji5) % 256) [.int .u8 ((ji5) % 256)] (fun _ => True) (fun _ => False) rfl rfl ?aP (fun _ hk => hk.elim) ?aF ?aO ?aB ?aS ?aL ?_; (case aP => exact rfl); (case aB => exact (by repeat (first | (with_reducible first | exact HB.out | apply below_alloc | apply pw_below_drewN | apply below_drew1) | exact HB.out))); (case aF => exact (fun _ _ => trivial)); (case aO => exact (by (with_reducible repeat (first | apply Kd.R_alloc | apply Kd.R_drewN | apply Kd.R_drew)); exact HO_3.out)); (case aS => exact (below_size (by repeat (first | (with_reducible first | exact HB.out | apply below_alloc | apply pw_below_drewN | apply below_drew1) | exact HB.out)))); (case aL => have := LMc6.out; omega); intro v144 w7 ho hb hg hat; rw [← Ny143.out] at ho; have n0_ := Aside0.mk (hb); have n1_ := Aside0.mk (ho); clear HB; clear HO_3; have HB := n0_; have HO145 := n1_; clear n0_ n1_; clear ho hb hg hat))
            go_roundg k1
            case measure => have := HK1.out; omega
            case rel => exact ⟨(y143), (wrap64 (x4_1 + 1)), (by first | rfl | (simp; done) | (simp [*]; done)), H', ⟨by have := HK1.out; omega⟩, ⟨by (with_reducible repeat (first | apply Kd.R_alloc | apply Kd.R_drewN | apply Kd.R_drew)); exact HO145.out⟩, ⟨by repeat (first | (with_reducible first | exact HB.out | apply below_alloc | apply pw_below_drewN | apply below_drew1) | exact HB.out)⟩⟩
          · rw [if_neg c6] at H
            exact absurd H (by simp)
        · rw [if_neg c4] at H
          exact absurd H (by simp)
      · rw [if_neg c2] at H
        have c2b0 : decide (x4_1 < 8) = false := decide_eq_false c2
        clear c2
        obtain rfl := Option.some.inj H
        go_wp2
        go_ret
        exact ⟨_, by first | rfl | (simp [errW_none, errW_some] <;> rfl) | (simp [*, errW_none, errW_some] <;> rfl), by (with_reducible repeat (first | apply Kd.R_alloc | apply Kd.R_drewN | apply Kd.R_drew)); exact HO_3.out, by repeat (first | (with_reducible first | exact HB.out | apply below_alloc | apply pw_below_drewN | apply below_drew1) | exact HB.out)⟩

-- NOT PRINTED: function 16 (vinculumref04_Join)

-- NOT PRINTED: function 6 (vinculumlaw04_DigestJoin)

end Go.Proofs.Ytojanhinfgjjiaa.PJ
