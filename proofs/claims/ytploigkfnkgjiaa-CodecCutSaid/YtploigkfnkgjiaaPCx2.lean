-- Written by a program of this place (wip/gen.py) with the kit's print; not trusted: Lean checks it.
import Derived.Test.YtploigkfnkgjiaaPCx0
import Derived.Test.YtploigkfnkgjiaaPCx1
namespace Go.Proofs.Ytploigkfnkgjiaa.PC
open Go.RowKit Go.Proofs.YtploigkfnkgjiaaW.PrintWords Go.Proofs.YtploigkfnkgjiaaW.PrintLast Go.Proofs.YtploigkfnkgjiaaW.PrintMore
attribute [local go_sem] max2_int min2_int max_two min_two max_three min_three max_four min_four   -- for this text's walks alone
set_option linter.unusedVariables false
set_option linter.unusedSimpArgs false

/-! ### codec_head: function 35 -/
mutual
def codec_head.j1 : Nat → List Int → Int → Int → Int → Option (List Int)
  | 0, _, _, _, _ => none
  | k + 1, x0, x5, x6, x7 => if x0.length < 140737488355328 then (codec_head.l1 k (x0 ++ [Go.bits .or .u8 x6 ((wrap64 (55 + x7)) % 256)]) x5 (wrap64 (x7 - 1))) else (none)
def codec_head.l1 : Nat → List Int → Int → Int → Option (List Int)
  | 0, _, _, _ => none
  | k + 1, x0, x5, x7 => if x7 ≥ 0 then (if 0 ≤ (wrap64 (8 * x7)) then (if x0.length < 140737488355328 then (codec_head.l1 k (x0 ++ [(shr .u64 x5 (wrap64 (8 * x7))) % 256]) x5 (wrap64 (x7 - 1))) else (none)) else (none)) else (some x0)
def codec_head.l0 : Nat → List Int → Int → Int → Int → Option (List Int)
  | 0, _, _, _, _ => none
  | k + 1, x0, x5, x6, x7 => if x7 < 8 then (if 0 ≤ (wrap64 (8 * x7)) then (if (shr .u64 x5 (wrap64 (8 * x7))) > 0 then (codec_head.l0 k x0 x5 x6 (wrap64 (x7 + 1))) else (codec_head.j1 k x0 x5 x6 x7)) else (none)) else (codec_head.j1 k x0 x5 x6 x7)
end
def codec_head.f (k : Nat) (l0 : List Int) (a1_0 : Int) (a1_1 : Int) (a1_2 : ByteArray) (l1_3 : List (S29)) : Option (List Int) := (codec_number.f a1_0 a1_1 a1_2 l1_3).bind fun t109 => (if t109 < 56 then (if l0.length < 140737488355328 then (some (l0 ++ [Go.bits .or .u8 ((wrap64 (a1_0 * 64)) % 256) ((t109) % 256)])) else (none)) else (codec_head.l0 k l0 t109 ((wrap64 (a1_0 * 64)) % 256) 1))
theorem codec_head.mono_l : ∀ k, (∀ y0 y1 y2 y3, LeO (codec_head.j1 k y0 y1 y2 y3) (codec_head.j1 (k + 1) y0 y1 y2 y3)) ∧ (∀ y0 y1 y2, LeO (codec_head.l1 k y0 y1 y2) (codec_head.l1 (k + 1) y0 y1 y2)) ∧ (∀ y0 y1 y2 y3, LeO (codec_head.l0 k y0 y1 y2 y3) (codec_head.l0 (k + 1) y0 y1 y2 y3))
  | 0 => ⟨fun _ _ _ _ r h => by simp [codec_head.j1] at h, fun _ _ _ r h => by simp [codec_head.l1] at h, fun _ _ _ _ r h => by simp [codec_head.l0] at h⟩
  | k + 1 => by
    obtain ⟨ih0, ih1, ih2⟩ := codec_head.mono_l k
    refine ⟨?_, ?_, ?_⟩
    · intro y0 y1 y2 y3
      unfold codec_head.j1
      repeat' first
      | (with_reducible exact ih0 _ _ _ _)
      | (with_reducible exact ih1 _ _ _)
      | (with_reducible exact ih2 _ _ _ _)
      | (with_reducible exact LeO.refl _)
      | (with_reducible exact LeO.none _)
      | (with_reducible refine LeO.ite ?_ ?_)
      | (with_reducible refine LeO.bind ?_ (fun _ => ?_))
      | exact ih0 _ _ _ _
      | exact ih1 _ _ _
      | exact ih2 _ _ _ _
      | exact LeO.none _
      | refine LeO.ite ?_ ?_
      | refine LeO.bind ?_ (fun _ => ?_)
    · intro y0 y1 y2
      unfold codec_head.l1
      repeat' first
      | (with_reducible exact ih0 _ _ _ _)
      | (with_reducible exact ih1 _ _ _)
      | (with_reducible exact ih2 _ _ _ _)
      | (with_reducible exact LeO.refl _)
      | (with_reducible exact LeO.none _)
      | (with_reducible refine LeO.ite ?_ ?_)
      | (with_reducible refine LeO.bind ?_ (fun _ => ?_))
      | exact ih0 _ _ _ _
      | exact ih1 _ _ _
      | exact ih2 _ _ _ _
      | exact LeO.none _
      | refine LeO.ite ?_ ?_
      | refine LeO.bind ?_ (fun _ => ?_)
    · intro y0 y1 y2 y3
      unfold codec_head.l0
      repeat' first
      | (with_reducible exact ih0 _ _ _ _)
      | (with_reducible exact ih1 _ _ _)
      | (with_reducible exact ih2 _ _ _ _)
      | (with_reducible exact LeO.refl _)
      | (with_reducible exact LeO.none _)
      | (with_reducible refine LeO.ite ?_ ?_)
      | (with_reducible refine LeO.bind ?_ (fun _ => ?_))
      | exact ih0 _ _ _ _
      | exact ih1 _ _ _
      | exact ih2 _ _ _ _
      | exact LeO.none _
      | refine LeO.ite ?_ ?_
      | refine LeO.bind ?_ (fun _ => ?_)
theorem codec_head.mono : ∀ a0 a1 a2 a3 a4 k, LeO (codec_head.f k a0 a1 a2 a3 a4) (codec_head.f (k + 1) a0 a1 a2 a3 a4) := by
  intro a0 a1 a2 a3 a4 k
  obtain ⟨ih0, ih1, ih2⟩ := codec_head.mono_l k
  unfold codec_head.f
  repeat' first
      | (with_reducible exact ih0 _ _ _ _)
      | (with_reducible exact ih1 _ _ _)
      | (with_reducible exact ih2 _ _ _ _)
      | (with_reducible exact LeO.refl _)
      | (with_reducible exact LeO.none _)
      | (with_reducible refine LeO.ite ?_ ?_)
      | (with_reducible refine LeO.bind ?_ (fun _ => ?_))
      | exact ih0 _ _ _ _
      | exact ih1 _ _ _
      | exact ih2 _ _ _ _
      | exact LeO.none _
      | refine LeO.ite ?_ ?_
      | refine LeO.bind ?_ (fun _ => ?_)
set_option maxHeartbeats 8000000 in
set_option maxRecDepth 100000 in
theorem codec_head.calls (k : Nat) (P0_ : Nat → Prop) (u9000_ : Value) (l0 : List Int) (a1_0 : Int) (a1_1 : Int) (a1_2 : ByteArray) (A1_3 : Option Addr) (c1_3 : Nat) (l1_3 : List (S29)) (r : List Int) (w0 w : World) (hB : Below w0.heap.size w0 w) (ho0 : Kd.R (Kd.int .u8) 5 w w0.heap.size P0_ u9000_ l0) (hr1_3 : ∀ W_, Kept w W_ (fun k_ => P0_ k_) → Kd.C k29 W_ A1_3 l1_3.length l1_3) (hc1_3 : l1_3.length ≤ c1_3) (h : codec_head.f k l0 a1_0 a1_1 a1_2 l1_3 = some r) :
    Calls Try.prog 35 #[u9000_, .agg #[.int .i64 a1_0, .int .i64 a1_1, .string a1_2, .slice A1_3 l1_3.length c1_3]] w fun e w' => ∃ v0_ : Value, e = .returned (v0_) ∧ Kd.R (Kd.int .u8) 5 w' w0.heap.size (fun k_ => (P0_ k_ ∨ w.heap.size ≤ k_)) v0_ r ∧ Below w0.heap.size w0 w' ∧ Kept w w' (fun k_ => P0_ k_) := by
  have hu29 := Try.underlying29
  have HO0 := Aside0.mk (show Kd.R (Kd.int .u8) 5 w w0.heap.size (fun k_ => (P0_ k_ ∨ w.heap.size ≤ k_)) u9000_ l0 from Kd.R_mono ho0 (fun k_ hk => (.inl hk)))
  have HR1_3 := Aside0.mk hr1_3
  have HC1_3 := Aside0.mk hc1_3
  clear hr1_3 hc1_3
  have HK := Aside0.mk (Kept.refl w (fun k_ => P0_ k_))
  have HW0 := Aside0.mk hB.size
  have HB := Aside0.mk hB
  clear hB
  have H : ((codec_number.f a1_0 a1_1 a1_2 l1_3).bind fun t109 => (if t109 < 56 then (if l0.length < 140737488355328 then (some (l0 ++ [Go.bits .or .u8 ((wrap64 (a1_0 * 64)) % 256) ((t109) % 256)])) else (none)) else (codec_head.l0 k l0 t109 ((wrap64 (a1_0 * 64)) % 256) 1))) = some r := h
  clear h
  replace H := Option.bind_eq_some_iff.mp H
  obtain ⟨t109, A30, H⟩ := H
  replace H : (if t109 < 56 then (if l0.length < 140737488355328 then (some (l0 ++ [Go.bits .or .u8 ((wrap64 (a1_0 * 64)) % 256) ((t109) % 256)])) else (none)) else (codec_head.l0 k l0 t109 ((wrap64 (a1_0 * 64)) % 256) 1)) = some r := H
  have A3 := Aside0.mk A30
  clear A30
  by_cases c4 : t109 < 56
  · rw [if_pos c4] at H
    have c4b0 : decide (t109 < 56) = true := decide_eq_true c4
    clear c4
    by_cases c5 : l0.length < 140737488355328
    · rw [if_pos c5] at H
      have LMc5 := Aside0.mk c5
      clear c5
      obtain ⟨y110, hy110⟩ : ∃ y_ : List Int, y_ = (l0 ++ [Go.bits .or .u8 ((wrap64 (a1_0 * 64)) % 256) ((t109) % 256)]) := ⟨_, rfl⟩
      replace H : (some y110) = some r := by first | (rw [hy110]; with_reducible exact H) | (have H2_ := (Option.bind_some _ _).symm.trans H; rw [hy110]; with_reducible exact H2_) | (have H2_ := (Option.bind_some _ _).symm.trans H; with_reducible exact H2_) | with_reducible exact H | (rw [hy110]; exact H) | exact H
      have Ny110 := Aside0.mk hy110
      clear hy110
      obtain rfl := Option.some.inj H
      go_enter Try.func35, Try.ntmps35
      go_wp2_with (first | ((with_reducible refine gate_dst (N := 3) rfl ?_); refine box_event ?hg (N := 3) ?hd (cs := #[.int .i64 a1_0, .int .i64 a1_1, .string a1_2, .slice A1_3 l1_3.length c1_3]) (t := 29) ?hr ?_; (case hd => rfl); (case hg => rfl); (case hr => first | (go_simp; done) | (go_simp; rfl)); intro gb108 hg w6 hbox hb; have n0_ := Aside0.mk (Kd.R_below (by (with_reducible repeat (first | apply Kd.R_alloc | apply Kd.R_drewN | apply Kd.R_drew)); exact HO0.out) hb); have n1_ := Aside0.mk (Kept.below (S := (fun k_ => P0_ k_)) (by repeat (first | (with_reducible first | exact HK.out | apply Kept.alloc | apply Kept.drewN | apply Kept.drew) | exact HK.out)) hb); have n2_ := Aside0.mk (below_step (by repeat (first | (with_reducible first | exact HB.out | apply below_alloc | apply pw_below_drewN | apply below_drew1) | exact HB.out)) hb); have n3_ := Aside0.mk (hbox); have n4_ := Aside0.mk ((by rw [hg]; exact (by first | exact HK.out.1 | exact (show Kept w _ (fun k_ => P0_ k_) from by repeat (first | (with_reducible first | exact HK.out | apply Kept.alloc | apply Kept.drewN | apply Kept.drew) | exact HK.out)).1) : w.heap.size ≤ gb108)); have n5_ := Aside0.mk ((by rw [hg]; exact (below_size (by repeat (first | (with_reducible first | exact HB.out | apply below_alloc | apply pw_below_drewN | apply below_drew1) | exact HB.out))) : w0.heap.size ≤ gb108)); clear HO0; clear HK; clear HB; have HO0 := n0_; have HK := n1_; have HB := n2_; have BK108 := n3_; have GW108 := n4_; have GE108 := n5_; clear n0_ n1_ n2_ n3_ n4_ n5_; clear hb hbox hg; have hcz7_0 : w6.cell? ⟨gb108, 0, none⟩ = some (.int .i64 a1_0) := (blk_cell BK108.out 0).trans rfl; have hcz7_1 : w6.cell? ⟨gb108, 1, none⟩ = some (.int .i64 a1_1) := (blk_cell BK108.out 1).trans rfl; have hcz7_2 : w6.cell? ⟨gb108, 2, none⟩ = some (.string a1_2) := (blk_cell BK108.out 2).trans rfl; have hcz7_3 : w6.cell? ⟨gb108, 3, none⟩ = some (.slice A1_3 l1_3.length c1_3) := (blk_cell BK108.out 3).trans rfl; have hfz7_0 := blk_frozen BK108.out 0; have hfz7_1 := blk_frozen BK108.out 1; have hfz7_2 := blk_frozen BK108.out 2; have hfz7_3 := blk_frozen BK108.out 3) | ((with_reducible refine gate_callee (f := 39) rfl ?_); refine goesL_ (some 9) rfl rfl Try.func39 (by kernel_rfl) rfl #[.agg #[.int .i64 a1_0, .int .i64 a1_1, .string a1_2, .slice A1_3 l1_3.length c1_3]] rfl (by (try simp only [List.map_toArray, List.map_cons, List.map_nil]); first | done | rfl | (simp only [List.length_drop, List.length_take]; rfl)) ?_; (with_reducible refine (codec_number.calls a1_0 a1_1 a1_2 _ _ l1_3 t109 _ ?side1 ?side2 A3.out).mono ?_); (case side1 => exact Kd.C_kept_now HR1_3.out (by repeat (first | (with_reducible first | exact HK.out | apply Kept.alloc | apply Kept.drewN | apply Kept.drew | refine Kept.setCell ?_ (.inr GW108.out) _) | exact HK.out))); (case side2 => exact HC1_3.out); rintro e w8 ⟨rfl, hb⟩; refine ⟨_, rfl, ?_⟩; have n0_ := Aside0.mk (Kd.R_below (by (with_reducible repeat (first | apply Kd.R_alloc | apply Kd.R_drewN | apply Kd.R_drew)); exact HO0.out) hb); have n1_ := Aside0.mk (blk_below (g := gb108) (o := .cells #[.int .i64 a1_0, .int .i64 a1_1, .string a1_2, .slice A1_3 l1_3.length c1_3] 29 (0, 0)) (by (with_reducible repeat (first | refine blk_drewN ?_ _ | refine blk_drew ?_ | refine blk_alloc ?_ _)); exact BK108.out) hb); have n2_ := Aside0.mk (Kept.below (S := (fun k_ => P0_ k_)) (by repeat (first | (with_reducible first | exact HK.out | apply Kept.alloc | apply Kept.drewN | apply Kept.drew | refine Kept.setCell ?_ (.inr GW108.out) _) | exact HK.out)) hb); have n3_ := Aside0.mk (below_step (by repeat (first | (with_reducible first | exact HB.out | apply below_alloc | apply pw_below_drewN | apply below_drew1 | refine below_set ?_ GE108.out) | exact HB.out)) hb); clear HO0; clear BK108; clear HK; clear HB; have HO0 := n0_; have BK108 := n1_; have HK := n2_; have HB := n3_; clear n0_ n1_ n2_ n3_; (try clear hb); (try clear hb2); (try clear hk); (try clear hi); have hcz9_0 : w8.cell? ⟨gb108, 0, none⟩ = some (.int .i64 a1_0) := (blk_cell BK108.out 0).trans rfl; have hcz9_1 : w8.cell? ⟨gb108, 1, none⟩ = some (.int .i64 a1_1) := (blk_cell BK108.out 1).trans rfl; have hcz9_2 : w8.cell? ⟨gb108, 2, none⟩ = some (.string a1_2) := (blk_cell BK108.out 2).trans rfl; have hcz9_3 : w8.cell? ⟨gb108, 3, none⟩ = some (.slice A1_3 l1_3.length c1_3) := (blk_cell BK108.out 3).trans rfl; have hfz9_0 := blk_frozen BK108.out 0; have hfz9_1 := blk_frozen BK108.out 1; have hfz9_2 := blk_frozen BK108.out 2; have hfz9_3 := blk_frozen BK108.out 3) | ((with_reducible refine gate_builtin (b := .append) (xs := #[.tmp 16, .tmp 21]) rfl ?_); at_builtin; refine Kd.R_append (Kd.int .u8) (w0 := w0) w0.heap.size rfl (.tmp 16) (.tmp 21) 31 5 (.int .u8 0) 1 rfl Try.underlying31 info5 rfl (by decide) (by omega) u9000_ l0 (Go.bits .or .u8 ((wrap64 (a1_0 * 64)) % 256) ((t109) % 256)) [.int .u8 (Go.bits .or .u8 ((wrap64 (a1_0 * 64)) % 256) ((t109) % 256))] (fun k_ => (P0_ k_ ∨ w.heap.size ≤ k_)) (fun _ => False) rfl rfl ?aP (fun _ hk => hk.elim) ?aF ?aO ?aB ?aS ?aL ?_; (case aP => exact rfl); (case aB => exact (by repeat (first | (with_reducible first | exact HB.out | apply below_alloc | apply pw_below_drewN | apply below_drew1 | refine below_set ?_ GE108.out) | exact HB.out))); (case aF => exact (fun k_ hk => (.inr (Nat.le_trans (by first | exact HK.out.1 | exact (show Kept w _ (fun k_ => P0_ k_) from by repeat (first | (with_reducible first | exact HK.out | apply Kept.alloc | apply Kept.drewN | apply Kept.drew | refine Kept.setCell ?_ (.inr GW108.out) _) | exact HK.out)).1) hk)))); (case aO => exact (by (with_reducible repeat (first | apply Kd.R_alloc | apply Kd.R_drewN | apply Kd.R_drew)); exact HO0.out)); (case aS => exact (below_size (by repeat (first | (with_reducible first | exact HB.out | apply below_alloc | apply pw_below_drewN | apply below_drew1 | refine below_set ?_ GE108.out) | exact HB.out)))); (case aL => have := LMc5.out; omega); intro v111 w10 ho hb hg hat; rw [← Ny110.out] at ho; have n0_ := Aside0.mk (blk_grown (g := gb108) (o := .cells #[.int .i64 a1_0, .int .i64 a1_1, .string a1_2, .slice A1_3 l1_3.length c1_3] 29 (0, 0)) (by (with_reducible repeat (first | refine blk_drewN ?_ _ | refine blk_drew ?_ | refine blk_alloc ?_ _)); exact BK108.out) hg (Kd.R_ne HO0.out BK108.out (by decide))); have n1_ := Aside0.mk (hb); have n2_ := Aside0.mk (Kept.of_grown (S := (fun k_ => P0_ k_)) hg (by repeat (first | (with_reducible first | exact HK.out | apply Kept.alloc | apply Kept.drewN | apply Kept.drew | refine Kept.setCell ?_ (.inr GW108.out) _) | exact HK.out)) (fun k_ e_ => (HO0.out.1 k_ e_))); have n3_ := Aside0.mk (ho); clear BK108; clear HB; clear HK; clear HO0; have BK108 := n0_; have HB := n1_; have HK := n2_; have HO112 := n3_; clear n0_ n1_ n2_ n3_; clear ho hb hg hat))
      go_ret
      exact ⟨_, by first | rfl | (simp [errW_none, errW_some] <;> rfl) | (simp [*, errW_none, errW_some] <;> rfl), by (with_reducible repeat (first | apply Kd.R_alloc | apply Kd.R_drewN | apply Kd.R_drew)); exact HO112.out, by repeat (first | (with_reducible first | exact HB.out | apply below_alloc | apply pw_below_drewN | apply below_drew1 | refine below_set ?_ GE108.out) | exact HB.out), by repeat (first | (with_reducible first | exact HK.out | apply Kept.alloc | apply Kept.drewN | apply Kept.drew | refine Kept.setCell ?_ (.inr GW108.out) _) | exact HK.out)⟩
    · rw [if_neg c5] at H
      exact absurd H (by simp)
  · rw [if_neg c4] at H
    have c4b0 : decide (t109 < 56) = false := decide_eq_false c4
    clear c4
    have HC11 := Aside0.mk H
    clear H
    go_enter Try.func35, Try.ntmps35
    go_upto_block 0 with (first | ((with_reducible refine gate_dst (N := 3) rfl ?_); refine box_event ?hg (N := 3) ?hd (cs := #[.int .i64 a1_0, .int .i64 a1_1, .string a1_2, .slice A1_3 l1_3.length c1_3]) (t := 29) ?hr ?_; (case hd => rfl); (case hg => rfl); (case hr => first | (go_simp; done) | (go_simp; rfl)); intro gb108 hg w12 hbox hb; have n0_ := Aside0.mk (Kd.R_below (by (with_reducible repeat (first | apply Kd.R_alloc | apply Kd.R_drewN | apply Kd.R_drew)); exact HO0.out) hb); have n1_ := Aside0.mk (Kept.below (S := (fun k_ => P0_ k_)) (by repeat (first | (with_reducible first | exact HK.out | apply Kept.alloc | apply Kept.drewN | apply Kept.drew) | exact HK.out)) hb); have n2_ := Aside0.mk (below_step (by repeat (first | (with_reducible first | exact HB.out | apply below_alloc | apply pw_below_drewN | apply below_drew1) | exact HB.out)) hb); have n3_ := Aside0.mk (hbox); have n4_ := Aside0.mk ((by rw [hg]; exact (by first | exact HK.out.1 | exact (show Kept w _ (fun k_ => P0_ k_) from by repeat (first | (with_reducible first | exact HK.out | apply Kept.alloc | apply Kept.drewN | apply Kept.drew) | exact HK.out)).1) : w.heap.size ≤ gb108)); have n5_ := Aside0.mk ((by rw [hg]; exact (below_size (by repeat (first | (with_reducible first | exact HB.out | apply below_alloc | apply pw_below_drewN | apply below_drew1) | exact HB.out))) : w0.heap.size ≤ gb108)); clear HO0; clear HK; clear HB; have HO0 := n0_; have HK := n1_; have HB := n2_; have BK108 := n3_; have GW108 := n4_; have GE108 := n5_; clear n0_ n1_ n2_ n3_ n4_ n5_; clear hb hbox hg; have hcz13_0 : w12.cell? ⟨gb108, 0, none⟩ = some (.int .i64 a1_0) := (blk_cell BK108.out 0).trans rfl; have hcz13_1 : w12.cell? ⟨gb108, 1, none⟩ = some (.int .i64 a1_1) := (blk_cell BK108.out 1).trans rfl; have hcz13_2 : w12.cell? ⟨gb108, 2, none⟩ = some (.string a1_2) := (blk_cell BK108.out 2).trans rfl; have hcz13_3 : w12.cell? ⟨gb108, 3, none⟩ = some (.slice A1_3 l1_3.length c1_3) := (blk_cell BK108.out 3).trans rfl; have hfz13_0 := blk_frozen BK108.out 0; have hfz13_1 := blk_frozen BK108.out 1; have hfz13_2 := blk_frozen BK108.out 2; have hfz13_3 := blk_frozen BK108.out 3) | ((with_reducible refine gate_callee (f := 39) rfl ?_); refine goesL_ (some 9) rfl rfl Try.func39 (by kernel_rfl) rfl #[.agg #[.int .i64 a1_0, .int .i64 a1_1, .string a1_2, .slice A1_3 l1_3.length c1_3]] rfl (by (try simp only [List.map_toArray, List.map_cons, List.map_nil]); first | done | rfl | (simp only [List.length_drop, List.length_take]; rfl)) ?_; (with_reducible refine (codec_number.calls a1_0 a1_1 a1_2 _ _ l1_3 t109 _ ?side1 ?side2 A3.out).mono ?_); (case side1 => exact Kd.C_kept_now HR1_3.out (by repeat (first | (with_reducible first | exact HK.out | apply Kept.alloc | apply Kept.drewN | apply Kept.drew | refine Kept.setCell ?_ (.inr GW108.out) _) | exact HK.out))); (case side2 => exact HC1_3.out); rintro e w14 ⟨rfl, hb⟩; refine ⟨_, rfl, ?_⟩; have n0_ := Aside0.mk (Kd.R_below (by (with_reducible repeat (first | apply Kd.R_alloc | apply Kd.R_drewN | apply Kd.R_drew)); exact HO0.out) hb); have n1_ := Aside0.mk (blk_below (g := gb108) (o := .cells #[.int .i64 a1_0, .int .i64 a1_1, .string a1_2, .slice A1_3 l1_3.length c1_3] 29 (0, 0)) (by (with_reducible repeat (first | refine blk_drewN ?_ _ | refine blk_drew ?_ | refine blk_alloc ?_ _)); exact BK108.out) hb); have n2_ := Aside0.mk (Kept.below (S := (fun k_ => P0_ k_)) (by repeat (first | (with_reducible first | exact HK.out | apply Kept.alloc | apply Kept.drewN | apply Kept.drew | refine Kept.setCell ?_ (.inr GW108.out) _) | exact HK.out)) hb); have n3_ := Aside0.mk (below_step (by repeat (first | (with_reducible first | exact HB.out | apply below_alloc | apply pw_below_drewN | apply below_drew1 | refine below_set ?_ GE108.out) | exact HB.out)) hb); clear HO0; clear BK108; clear HK; clear HB; have HO0 := n0_; have BK108 := n1_; have HK := n2_; have HB := n3_; clear n0_ n1_ n2_ n3_; (try clear hb); (try clear hb2); (try clear hk); (try clear hi); have hcz15_0 : w14.cell? ⟨gb108, 0, none⟩ = some (.int .i64 a1_0) := (blk_cell BK108.out 0).trans rfl; have hcz15_1 : w14.cell? ⟨gb108, 1, none⟩ = some (.int .i64 a1_1) := (blk_cell BK108.out 1).trans rfl; have hcz15_2 : w14.cell? ⟨gb108, 2, none⟩ = some (.string a1_2) := (blk_cell BK108.out 2).trans rfl; have hcz15_3 : w14.cell? ⟨gb108, 3, none⟩ = some (.slice A1_3 l1_3.length c1_3) := (blk_cell BK108.out 3).trans rfl; have hfz15_0 := blk_frozen BK108.out 0; have hfz15_1 := blk_frozen BK108.out 1; have hfz15_2 := blk_frozen BK108.out 2; have hfz15_3 := blk_frozen BK108.out 3))
    (try simp only [Act.put, List.setIfInBounds_toArray, List.set_cons_zero, List.set_cons_succ])
    go_cut [7] (fun v7 wc => ∃ (kq : Nat) (x7_10 : Int), v7 = .int .i64 x7_10 ∧ Aside0 (codec_head.j1 kq l0 t109 ((wrap64 (a1_0 * 64)) % 256) x7_10 = some r) ∧ Aside0 (kq ≤ k) ∧ Aside0 (Kd.R (Kd.int .u8) 5 wc w0.heap.size (fun k_ => (P0_ k_ ∨ w.heap.size ≤ k_)) u9000_ l0) ∧ Aside0 (wc.heap[gb108]? = some (.cells #[.int .i64 a1_0, .int .i64 a1_1, .string a1_2, (.slice A1_3 l1_3.length c1_3)] 29 (0, 0))) ∧ Aside0 (Kept w wc (fun k_ => P0_ k_)) ∧ Aside0 (Below w0.heap.size w0 wc))
    case first =>
      have H := HC11.out
      clear HC11
      have H' := Aside0.mk H
      clear H
      go_wp2
      go_loopg [7] k (fun kq v7 w' => ∃ (x7_1 : Int), v7 = .int .i64 x7_1 ∧ Aside0 (codec_head.l0 kq l0 t109 ((wrap64 (a1_0 * 64)) % 256) x7_1 = some r) ∧ Aside0 (kq ≤ k) ∧ Aside0 (Kd.R (Kd.int .u8) 5 w' w0.heap.size (fun k_ => (P0_ k_ ∨ w.heap.size ≤ k_)) u9000_ l0) ∧ Aside0 (w'.heap[gb108]? = some (.cells #[.int .i64 a1_0, .int .i64 a1_1, .string a1_2, (.slice A1_3 l1_3.length c1_3)] 29 (0, 0))) ∧ Aside0 (Kept w w' (fun k_ => P0_ k_)) ∧ Aside0 (Below w0.heap.size w0 w'))
      case atStart => exact ⟨(1), (by first | rfl | (simp; done) | (simp [*]; done) | (simp [ne_nil_bool]; done)), H', ⟨Nat.le_refl _⟩, ⟨by (with_reducible repeat (first | apply Kd.R_alloc | apply Kd.R_drewN | apply Kd.R_drew)); exact HO0.out⟩, ⟨by (with_reducible repeat (first | refine blk_drewN ?_ _ | refine blk_drew ?_ | refine blk_alloc ?_ _)); exact BK108.out⟩, ⟨by repeat (first | (with_reducible first | exact HK.out | apply Kept.alloc | apply Kept.drewN | apply Kept.drew | refine Kept.setCell ?_ (.inr GW108.out) _) | exact HK.out)⟩, ⟨by repeat (first | (with_reducible first | exact HB.out | apply below_alloc | apply pw_below_drewN | apply below_drew1 | refine below_set ?_ GE108.out) | exact HB.out)⟩⟩
      case round =>
        clear H'
        try clear c1
        try clear p2
        try clear c3
        try clear c4
        try clear c4b0
        try clear c5
        try clear p6
        try clear hcz13_0
        try clear hcz13_1
        try clear hcz13_2
        try clear hcz13_3
        try clear hcz15_0
        try clear hcz15_1
        try clear hcz15_2
        try clear hcz15_3
        try clear hcz7_0
        try clear hcz7_1
        try clear hcz7_2
        try clear hcz7_3
        try clear hcz9_0
        try clear hcz9_1
        try clear hcz9_2
        try clear hcz9_3
        try clear hfz13_0
        try clear hfz13_1
        try clear hfz13_2
        try clear hfz13_3
        try clear hfz15_0
        try clear hfz15_1
        try clear hfz15_2
        try clear hfz15_3
        try clear hfz7_0
        try clear hfz7_1
        try clear hfz7_2
        try clear hfz7_3
        try clear hfz9_0
        try clear hfz9_1
        try clear hfz9_2
        try clear hfz9_3
        obtain ⟨x7_1, rfl, HA, HK1, HO_0, BK108, HK, HB⟩ := hrel
        cases gk with
        | zero => exact absurd HA.out (by simp [codec_head.l0])
        | succ k1 =>
          have H := HA.out
          clear HA
          simp only [codec_head.l0] at H
          by_cases c16 : x7_1 < 8
          · rw [if_pos c16] at H
            have c16b0 : decide (x7_1 < 8) = true := decide_eq_true c16
            clear c16
            (first | rw [c16b0] | (simp only [i64_w, i32_w]; rw [c16b0]) | skip)
            obtain ⟨ji17, hji17⟩ : ∃ j_ : Int, (wrap64 (8 * x7_1)) = j_ := ⟨_, rfl⟩
            replace H : (if 0 ≤ (ji17) then (if (shr .u64 t109 (ji17)) > 0 then (codec_head.l0 k1 l0 t109 ((wrap64 (a1_0 * 64)) % 256) (wrap64 (x7_1 + 1))) else (codec_head.j1 k1 l0 t109 ((wrap64 (a1_0 * 64)) % 256) x7_1)) else (none)) = some r := by first | (rw [hji17] at H; exact H) | (simp only [hji17] at H ⊢; exact H)
            have hji17w : (IntKind.i64.wrap (8 * x7_1)) = ji17 := (i64_w _).trans hji17
            by_cases c18 : 0 ≤ (ji17)
            · rw [if_pos c18] at H
              have c18b0 := eq_true c18
              have c18b1 : decide (0 ≤ (ji17)) = true := decide_eq_true c18
              clear c18
              obtain ⟨ji19, hji19⟩ : ∃ j_ : Int, (shr .u64 t109 (ji17)) = j_ := ⟨_, rfl⟩
              replace H : (if (ji19) > 0 then (codec_head.l0 k1 l0 t109 ((wrap64 (a1_0 * 64)) % 256) (wrap64 (x7_1 + 1))) else (codec_head.j1 k1 l0 t109 ((wrap64 (a1_0 * 64)) % 256) x7_1)) = some r := by first | (rw [hji19] at H; exact H) | (simp only [hji19] at H ⊢; exact H)
              have hji19_ : (t109 / 2 ^ min (ji17).toNat 64) = ji19 := hji19
              have hji19z : (ji17) ≤ 64 → (t109 / 2 ^ (ji17).toNat) = ji19 := shr_small hji19
              by_cases c20 : (ji19) > 0
              · rw [if_pos c20] at H
                have c20b0 : decide (0 < (ji19)) = true := decide_eq_true c20
                clear c20
                have H' := Aside0.mk H
                clear H
                go_wp2
                go_roundg k1
                case measure => have := HK1.out; omega
                case rel => exact ⟨(wrap64 (x7_1 + 1)), (by first | rfl | (simp; done) | (simp [*]; done) | (simp [ne_nil_bool]; done)), H', ⟨by have := HK1.out; omega⟩, ⟨by (with_reducible repeat (first | apply Kd.R_alloc | apply Kd.R_drewN | apply Kd.R_drew)); exact HO_0.out⟩, ⟨by (with_reducible repeat (first | refine blk_drewN ?_ _ | refine blk_drew ?_ | refine blk_alloc ?_ _)); exact BK108.out⟩, ⟨by repeat (first | (with_reducible first | exact HK.out | apply Kept.alloc | apply Kept.drewN | apply Kept.drew | refine Kept.setCell ?_ (.inr GW108.out) _) | exact HK.out)⟩, ⟨by repeat (first | (with_reducible first | exact HB.out | apply below_alloc | apply pw_below_drewN | apply below_drew1 | refine below_set ?_ GE108.out) | exact HB.out)⟩⟩
              · rw [if_neg c20] at H
                have c20b0 : decide (0 < (ji19)) = false := decide_eq_false c20
                clear c20
                have H' := Aside0.mk H
                clear H
                go_wp2
                go_meet
                case rel => exact ⟨_, (x7_1), (by first | rfl | (simp; done) | (simp [*]; done) | (simp [ne_nil_bool]; done)), H', ⟨by have := HK1.out; first | omega | exact Nat.le_refl _⟩, ⟨by (with_reducible repeat (first | apply Kd.R_alloc | apply Kd.R_drewN | apply Kd.R_drew)); exact HO_0.out⟩, ⟨by (with_reducible repeat (first | refine blk_drewN ?_ _ | refine blk_drew ?_ | refine blk_alloc ?_ _)); exact BK108.out⟩, ⟨by repeat (first | (with_reducible first | exact HK.out | apply Kept.alloc | apply Kept.drewN | apply Kept.drew | refine Kept.setCell ?_ (.inr GW108.out) _) | exact HK.out)⟩, ⟨by repeat (first | (with_reducible first | exact HB.out | apply below_alloc | apply pw_below_drewN | apply below_drew1 | refine below_set ?_ GE108.out) | exact HB.out)⟩⟩
            · rw [if_neg c18] at H
              exact absurd H (by simp)
          · rw [if_neg c16] at H
            have c16b0 : decide (x7_1 < 8) = false := decide_eq_false c16
            clear c16
            (first | rw [c16b0] | (simp only [i64_w, i32_w]; rw [c16b0]) | skip)
            have H' := Aside0.mk H
            clear H
            go_wp2
            go_meet
            case rel => exact ⟨_, (x7_1), (by first | rfl | (simp; done) | (simp [*]; done) | (simp [ne_nil_bool]; done)), H', ⟨by have := HK1.out; first | omega | exact Nat.le_refl _⟩, ⟨by (with_reducible repeat (first | apply Kd.R_alloc | apply Kd.R_drewN | apply Kd.R_drew)); exact HO_0.out⟩, ⟨by (with_reducible repeat (first | refine blk_drewN ?_ _ | refine blk_drew ?_ | refine blk_alloc ?_ _)); exact BK108.out⟩, ⟨by repeat (first | (with_reducible first | exact HK.out | apply Kept.alloc | apply Kept.drewN | apply Kept.drew | refine Kept.setCell ?_ (.inr GW108.out) _) | exact HK.out)⟩, ⟨by repeat (first | (with_reducible first | exact HB.out | apply below_alloc | apply pw_below_drewN | apply below_drew1 | refine below_set ?_ GE108.out) | exact HB.out)⟩⟩
    case rest =>
      clear HC11
      try clear c1
      try clear c2
      try clear p2
      try clear c3
      try clear c4
      try clear c4b0
      try clear c5
      try clear p6
      try clear c16
      try clear c16b0
      try clear c18
      try clear c18b0
      try clear c18b1
      try clear c20
      try clear c20b0
      try clear hcz13_0
      try clear hcz13_1
      try clear hcz13_2
      try clear hcz13_3
      try clear hcz15_0
      try clear hcz15_1
      try clear hcz15_2
      try clear hcz15_3
      try clear hcz7_0
      try clear hcz7_1
      try clear hcz7_2
      try clear hcz7_3
      try clear hcz9_0
      try clear hcz9_1
      try clear hcz9_2
      try clear hcz9_3
      try clear hfz13_0
      try clear hfz13_1
      try clear hfz13_2
      try clear hfz13_3
      try clear hfz15_0
      try clear hfz15_1
      try clear hfz15_2
      try clear hfz15_3
      try clear hfz7_0
      try clear hfz7_1
      try clear hfz7_2
      try clear hfz7_3
      try clear hfz9_0
      try clear hfz9_1
      try clear hfz9_2
      try clear hfz9_3
      try clear p2
      try clear p6
      obtain ⟨kq, x7_10, rfl, HA, HJ10, HO_0, BK108, HK, HB⟩ := hcut
      cases kq with
      | zero => exact absurd HA.out (by simp [codec_head.j1])
      | succ kj10 =>
        have H := HA.out
        clear HA
        simp only [codec_head.j1] at H
        by_cases c21 : l0.length < 140737488355328
        · rw [if_pos c21] at H
          have LMc21 := Aside0.mk c21
          clear c21
          obtain ⟨y113, hy113⟩ : ∃ y_ : List Int, y_ = (l0 ++ [Go.bits .or .u8 ((wrap64 (a1_0 * 64)) % 256) ((wrap64 (55 + x7_10)) % 256)]) := ⟨_, rfl⟩
          replace H : (codec_head.l1 kj10 y113 t109 (wrap64 (x7_10 - 1))) = some r := by first | (rw [hy113]; with_reducible exact H) | (have H2_ := (Option.bind_some _ _).symm.trans H; rw [hy113]; with_reducible exact H2_) | (have H2_ := (Option.bind_some _ _).symm.trans H; with_reducible exact H2_) | with_reducible exact H | (rw [hy113]; exact H) | exact H
          have Ny113 := Aside0.mk hy113
          clear hy113
          have H' := Aside0.mk H
          clear H
          go_wp2_with (first | ((with_reducible refine gate_builtin (b := .append) (xs := #[.tmp 34, .tmp 40]) rfl ?_); at_builtin; refine Kd.R_append (Kd.int .u8) (w0 := w0) w0.heap.size rfl (.tmp 34) (.tmp 40) 31 5 (.int .u8 0) 1 rfl Try.underlying31 info5 rfl (by decide) (by omega) u9000_ l0 (Go.bits .or .u8 ((wrap64 (a1_0 * 64)) % 256) ((wrap64 (55 + x7_10)) % 256)) [.int .u8 (Go.bits .or .u8 ((wrap64 (a1_0 * 64)) % 256) ((wrap64 (55 + x7_10)) % 256))] (fun k_ => (P0_ k_ ∨ w.heap.size ≤ k_)) (fun _ => False) rfl rfl ?aP (fun _ hk => hk.elim) ?aF ?aO ?aB ?aS ?aL ?_; (case aP => exact rfl); (case aB => exact (by repeat (first | (with_reducible first | exact HB.out | apply below_alloc | apply pw_below_drewN | apply below_drew1 | refine below_set ?_ GE108.out) | exact HB.out))); (case aF => exact (fun k_ hk => (.inr (Nat.le_trans (by first | exact HK.out.1 | exact (show Kept w _ (fun k_ => P0_ k_) from by repeat (first | (with_reducible first | exact HK.out | apply Kept.alloc | apply Kept.drewN | apply Kept.drew | refine Kept.setCell ?_ (.inr GW108.out) _) | exact HK.out)).1) hk)))); (case aO => exact (by (with_reducible repeat (first | apply Kd.R_alloc | apply Kd.R_drewN | apply Kd.R_drew)); exact HO_0.out)); (case aS => exact (below_size (by repeat (first | (with_reducible first | exact HB.out | apply below_alloc | apply pw_below_drewN | apply below_drew1 | refine below_set ?_ GE108.out) | exact HB.out)))); (case aL => have := LMc21.out; omega); intro v114 w22 ho hb hg hat; rw [← Ny113.out] at ho; have n0_ := Aside0.mk (blk_grown (g := gb108) (o := .cells #[.int .i64 a1_0, .int .i64 a1_1, .string a1_2, .slice A1_3 l1_3.length c1_3] 29 (0, 0)) (by (with_reducible repeat (first | refine blk_drewN ?_ _ | refine blk_drew ?_ | refine blk_alloc ?_ _)); exact BK108.out) hg (Kd.R_ne HO_0.out BK108.out (by decide))); have n1_ := Aside0.mk (hb); have n2_ := Aside0.mk (Kept.of_grown (S := (fun k_ => P0_ k_)) hg (by repeat (first | (with_reducible first | exact HK.out | apply Kept.alloc | apply Kept.drewN | apply Kept.drew | refine Kept.setCell ?_ (.inr GW108.out) _) | exact HK.out)) (fun k_ e_ => (HO_0.out.1 k_ e_))); have n3_ := Aside0.mk (ho); clear BK108; clear HB; clear HK; clear HO_0; have BK108 := n0_; have HB := n1_; have HK := n2_; have HO115 := n3_; clear n0_ n1_ n2_ n3_; clear ho hb hg hat))
          go_loopg [0, 7] kj10 (fun kq v0 v7 w' => ∃ (x0_2 : List Int) (x7_2 : Int), v7 = .int .i64 x7_2 ∧ Aside0 (codec_head.l1 kq x0_2 t109 x7_2 = some r) ∧ Aside0 (kq ≤ kj10) ∧ Aside0 (Kd.R (Kd.int .u8) 5 w' w0.heap.size (fun k_ => (P0_ k_ ∨ w.heap.size ≤ k_)) v0 x0_2) ∧ Aside0 (w'.heap[gb108]? = some (.cells #[.int .i64 a1_0, .int .i64 a1_1, .string a1_2, (.slice A1_3 l1_3.length c1_3)] 29 (0, 0))) ∧ Aside0 (Kept w w' (fun k_ => P0_ k_)) ∧ Aside0 (Below w0.heap.size w0 w'))
          case atStart => exact ⟨(y113), (wrap64 (x7_10 - 1)), (by first | rfl | (simp; done) | (simp [*]; done) | (simp [ne_nil_bool]; done)), H', ⟨Nat.le_refl _⟩, ⟨by (with_reducible repeat (first | apply Kd.R_alloc | apply Kd.R_drewN | apply Kd.R_drew)); exact HO115.out⟩, ⟨by (with_reducible repeat (first | refine blk_drewN ?_ _ | refine blk_drew ?_ | refine blk_alloc ?_ _)); exact BK108.out⟩, ⟨by repeat (first | (with_reducible first | exact HK.out | apply Kept.alloc | apply Kept.drewN | apply Kept.drew | refine Kept.setCell ?_ (.inr GW108.out) _) | exact HK.out)⟩, ⟨by repeat (first | (with_reducible first | exact HB.out | apply below_alloc | apply pw_below_drewN | apply below_drew1 | refine below_set ?_ GE108.out) | exact HB.out)⟩⟩
          case round =>
            clear H'
            try clear c1
            try clear c2
            try clear p2
            try clear c3
            try clear c4
            try clear c4b0
            try clear c5
            try clear p6
            try clear c16
            try clear c16b0
            try clear c18
            try clear c18b0
            try clear c18b1
            try clear c20
            try clear c20b0
            try clear c21
            try clear hcz13_0
            try clear hcz13_1
            try clear hcz13_2
            try clear hcz13_3
            try clear hcz15_0
            try clear hcz15_1
            try clear hcz15_2
            try clear hcz15_3
            try clear hcz7_0
            try clear hcz7_1
            try clear hcz7_2
            try clear hcz7_3
            try clear hcz9_0
            try clear hcz9_1
            try clear hcz9_2
            try clear hcz9_3
            try clear hfz13_0
            try clear hfz13_1
            try clear hfz13_2
            try clear hfz13_3
            try clear hfz15_0
            try clear hfz15_1
            try clear hfz15_2
            try clear hfz15_3
            try clear hfz7_0
            try clear hfz7_1
            try clear hfz7_2
            try clear hfz7_3
            try clear hfz9_0
            try clear hfz9_1
            try clear hfz9_2
            try clear hfz9_3
            try clear p2
            try clear p6
            obtain ⟨x0_2, x7_2, rfl, HA, HK2, HO_0, BK108, HK, HB⟩ := hrel
            cases gk with
            | zero => exact absurd HA.out (by simp [codec_head.l1])
            | succ k2 =>
              have H := HA.out
              clear HA
              simp only [codec_head.l1] at H
              by_cases c23 : x7_2 ≥ 0
              · rw [if_pos c23] at H
                have c23b0 : decide (0 ≤ x7_2) = true := decide_eq_true c23
                clear c23
                obtain ⟨ji24, hji24⟩ : ∃ j_ : Int, (wrap64 (8 * x7_2)) = j_ := ⟨_, rfl⟩
                replace H : (if 0 ≤ (ji24) then (if x0_2.length < 140737488355328 then (codec_head.l1 k2 (x0_2 ++ [(shr .u64 t109 (ji24)) % 256]) t109 (wrap64 (x7_2 - 1))) else (none)) else (none)) = some r := by first | (rw [hji24] at H; exact H) | (simp only [hji24] at H ⊢; exact H)
                have hji24w : (IntKind.i64.wrap (8 * x7_2)) = ji24 := (i64_w _).trans hji24
                by_cases c25 : 0 ≤ (ji24)
                · rw [if_pos c25] at H
                  have c25b0 := eq_true c25
                  have c25b1 : decide (0 ≤ (ji24)) = true := decide_eq_true c25
                  clear c25
                  obtain ⟨ji26, hji26⟩ : ∃ j_ : Int, (shr .u64 t109 (ji24)) = j_ := ⟨_, rfl⟩
                  replace H : (if x0_2.length < 140737488355328 then (codec_head.l1 k2 (x0_2 ++ [(ji26) % 256]) t109 (wrap64 (x7_2 - 1))) else (none)) = some r := by first | (rw [hji26] at H; exact H) | (simp only [hji26] at H ⊢; exact H)
                  have hji26_ : (t109 / 2 ^ min (ji24).toNat 64) = ji26 := hji26
                  have hji26z : (ji24) ≤ 64 → (t109 / 2 ^ (ji24).toNat) = ji26 := shr_small hji26
                  by_cases c27 : x0_2.length < 140737488355328
                  · rw [if_pos c27] at H
                    have LMc27 := Aside0.mk c27
                    clear c27
                    obtain ⟨y116, hy116⟩ : ∃ y_ : List Int, y_ = (x0_2 ++ [(ji26) % 256]) := ⟨_, rfl⟩
                    replace H : (codec_head.l1 k2 y116 t109 (wrap64 (x7_2 - 1))) = some r := by first | (rw [hy116]; with_reducible exact H) | (have H2_ := (Option.bind_some _ _).symm.trans H; rw [hy116]; with_reducible exact H2_) | (have H2_ := (Option.bind_some _ _).symm.trans H; with_reducible exact H2_) | with_reducible exact H | (rw [hy116]; exact H) | exact H
                    have Ny116 := Aside0.mk hy116
                    clear hy116
                    have H' := Aside0.mk H
                    clear H
                    go_wp2_with (first | ((with_reducible refine gate_builtin (b := .append) (xs := #[.tmp 48, .tmp 54]) rfl ?_); at_builtin; refine Kd.R_append (Kd.int .u8) (w0 := w0) w0.heap.size rfl (.tmp 48) (.tmp 54) 31 5 (.int .u8 0) 1 rfl Try.underlying31 info5 rfl (by decide) (by omega) u0 x0_2 ((ji26) % 256) [.int .u8 ((ji26) % 256)] (fun k_ => (P0_ k_ ∨ w.heap.size ≤ k_)) (fun _ => False) rfl rfl ?aP (fun _ hk => hk.elim) ?aF ?aO ?aB ?aS ?aL ?_; (case aP => exact rfl); (case aB => exact (by repeat (first | (with_reducible first | exact HB.out | apply below_alloc | apply pw_below_drewN | apply below_drew1 | refine below_set ?_ GE108.out) | exact HB.out))); (case aF => exact (fun k_ hk => (.inr (Nat.le_trans (by first | exact HK.out.1 | exact (show Kept w _ (fun k_ => P0_ k_) from by repeat (first | (with_reducible first | exact HK.out | apply Kept.alloc | apply Kept.drewN | apply Kept.drew | refine Kept.setCell ?_ (.inr GW108.out) _) | exact HK.out)).1) hk)))); (case aO => exact (by (with_reducible repeat (first | apply Kd.R_alloc | apply Kd.R_drewN | apply Kd.R_drew)); exact HO_0.out)); (case aS => exact (below_size (by repeat (first | (with_reducible first | exact HB.out | apply below_alloc | apply pw_below_drewN | apply below_drew1 | refine below_set ?_ GE108.out) | exact HB.out)))); (case aL => have := LMc27.out; omega); intro v117 w28 ho hb hg hat; rw [← Ny116.out] at ho; have n0_ := Aside0.mk (blk_grown (g := gb108) (o := .cells #[.int .i64 a1_0, .int .i64 a1_1, .string a1_2, .slice A1_3 l1_3.length c1_3] 29 (0, 0)) (by (with_reducible repeat (first | refine blk_drewN ?_ _ | refine blk_drew ?_ | refine blk_alloc ?_ _)); exact BK108.out) hg (Kd.R_ne HO_0.out BK108.out (by decide))); have n1_ := Aside0.mk (hb); have n2_ := Aside0.mk (Kept.of_grown (S := (fun k_ => P0_ k_)) hg (by repeat (first | (with_reducible first | exact HK.out | apply Kept.alloc | apply Kept.drewN | apply Kept.drew | refine Kept.setCell ?_ (.inr GW108.out) _) | exact HK.out)) (fun k_ e_ => (HO_0.out.1 k_ e_))); have n3_ := Aside0.mk (ho); clear BK108; clear HB; clear HK; clear HO_0; have BK108 := n0_; have HB := n1_; have HK := n2_; have HO118 := n3_; clear n0_ n1_ n2_ n3_; clear ho hb hg hat))
                    go_roundg k2
                    case measure => have := HJ10.out; have := HK2.out; omega
                    case rel => exact ⟨(y116), (wrap64 (x7_2 - 1)), (by first | rfl | (simp; done) | (simp [*]; done) | (simp [ne_nil_bool]; done)), H', ⟨by have := HJ10.out; have := HK2.out; omega⟩, ⟨by (with_reducible repeat (first | apply Kd.R_alloc | apply Kd.R_drewN | apply Kd.R_drew)); exact HO118.out⟩, ⟨by (with_reducible repeat (first | refine blk_drewN ?_ _ | refine blk_drew ?_ | refine blk_alloc ?_ _)); exact BK108.out⟩, ⟨by repeat (first | (with_reducible first | exact HK.out | apply Kept.alloc | apply Kept.drewN | apply Kept.drew | refine Kept.setCell ?_ (.inr GW108.out) _) | exact HK.out)⟩, ⟨by repeat (first | (with_reducible first | exact HB.out | apply below_alloc | apply pw_below_drewN | apply below_drew1 | refine below_set ?_ GE108.out) | exact HB.out)⟩⟩
                  · rw [if_neg c27] at H
                    exact absurd H (by simp)
                · rw [if_neg c25] at H
                  exact absurd H (by simp)
              · rw [if_neg c23] at H
                have c23b0 : decide (0 ≤ x7_2) = false := decide_eq_false c23
                clear c23
                obtain rfl := Option.some.inj H
                go_wp2
                go_ret
                exact ⟨_, by first | rfl | (simp [errW_none, errW_some] <;> rfl) | (simp [*, errW_none, errW_some] <;> rfl), by (with_reducible repeat (first | apply Kd.R_alloc | apply Kd.R_drewN | apply Kd.R_drew)); exact HO_0.out, by repeat (first | (with_reducible first | exact HB.out | apply below_alloc | apply pw_below_drewN | apply below_drew1 | refine below_set ?_ GE108.out) | exact HB.out), by repeat (first | (with_reducible first | exact HK.out | apply Kept.alloc | apply Kept.drewN | apply Kept.drew | refine Kept.setCell ?_ (.inr GW108.out) _) | exact HK.out)⟩
        · rw [if_neg c21] at H
          exact absurd H (by simp)

/-! ### codec_encode: function 30, by hand -/
theorem k29_heapE : Kd.Heap k29 := Kd.heap_fix (fun d hd => Kd.heap_iso _ (Kd.heap_pair (Kd.heap_int _) (Kd.heap_pair (Kd.heap_int _) (Kd.heap_pair Kd.heap_string (Kd.heap_slice 29 hd)))))
theorem R_okE {e : Nat} {w : World} {base : Nat} {ok ok' : Nat → Prop} {v : Value} {xs : List Int} (h : (Kd.int .u8).R e w base ok v xs) (hv : ∀ k, v.ownBlock = some k → ok' k) : (Kd.int .u8).R e w base ok' v xs := ⟨hv, h.2.imp_ (fun _ _ hp => hp)⟩
mutual
def codec_encode.l0 : Nat → List Int → List S29 → Int → Option (List Int)
  | 0, _, _, _ => none
  | k + 1, b, l, i => if i < (l.length : Int) then (if 0 ≤ i then (if (b.length : Int) > 1048576 then some b else ((codec_encode.f k b ((rd_T29 l i).f0) ((rd_T29 l i).f1) ((rd_T29 l i).f2) ((rd_T29 l i).f3)).bind fun t => codec_encode.l0 k t l (wrap64 (i + 1)))) else none) else some b
def codec_encode.f : Nat → List Int → Int → Int → ByteArray → List S29 → Option (List Int)
  | 0, _, _, _, _, _ => none
  | k + 1, b, a0, a1, a2, l3 => (codec_head.f k b a0 a1 a2 l3).bind fun t => (if t.length + a2.size < 140737488355328 then codec_encode.l0 k (t ++ bytesOf a2) l3 0 else none)
end
theorem codec_encode.mono_l : ∀ k, (∀ y0 y1 y2 y3 y4, LeO (codec_encode.f k y0 y1 y2 y3 y4) (codec_encode.f (k + 1) y0 y1 y2 y3 y4)) ∧ (∀ y0 y1 y2, LeO (codec_encode.l0 k y0 y1 y2) (codec_encode.l0 (k + 1) y0 y1 y2))
  | 0 => ⟨fun _ _ _ _ _ r h => by simp [codec_encode.f] at h, fun _ _ _ r h => by simp [codec_encode.l0] at h⟩
  | k + 1 => by
    obtain ⟨ih0, ih1⟩ := codec_encode.mono_l k
    refine ⟨?_, ?_⟩
    · intro y0 y1 y2 y3 y4
      unfold codec_encode.f
      repeat' first
      | (with_reducible exact ih0 _ _ _ _ _)
      | (with_reducible exact ih1 _ _ _)
      | (with_reducible exact codec_head.mono _ _ _ _ _ _)
      | (with_reducible exact LeO.refl _)
      | (with_reducible exact LeO.none _)
      | (with_reducible refine LeO.ite ?_ ?_)
      | (with_reducible refine LeO.bind ?_ (fun _ => ?_))
    · intro y0 y1 y2
      unfold codec_encode.l0
      repeat' first
      | (with_reducible exact ih0 _ _ _ _ _)
      | (with_reducible exact ih1 _ _ _)
      | (with_reducible exact LeO.refl _)
      | (with_reducible exact LeO.none _)
      | (with_reducible refine LeO.ite ?_ ?_)
      | (with_reducible refine LeO.bind ?_ (fun _ => ?_))
theorem codec_encode.mono : ∀ a0 a1 a2 a3 a4 k, LeO (codec_encode.f k a0 a1 a2 a3 a4) (codec_encode.f (k + 1) a0 a1 a2 a3 a4) := fun a0 a1 a2 a3 a4 k => (codec_encode.mono_l k).1 a0 a1 a2 a3 a4
set_option maxHeartbeats 8000000 in
set_option maxRecDepth 100000 in
theorem codec_encode.calls (k : Nat) : ∀ (u : Value) (l0 : List Int) (a0 a1 : Int) (a2 : ByteArray) (A3 : Option Addr) (c3 : Nat) (l3 : List S29) (r : List Int) (w0 w : World) (hB : Below w0.heap.size w0 w) (ho0 : Kd.R (Kd.int .u8) 5 w w0.heap.size (fun _ => True) u l0) (hr3 : Kd.C k29 w0 A3 l3.length l3) (hc3 : l3.length ≤ c3) (h : codec_encode.f k l0 a0 a1 a2 l3 = some r),
    Calls Try.prog 30 #[u, .agg #[.int .i64 a0, .int .i64 a1, .string a2, .slice A3 l3.length c3]] w fun e w' => ∃ v0_ : Value, e = .returned v0_ ∧ Kd.R (Kd.int .u8) 5 w' w0.heap.size (fun _ => True) v0_ r ∧ Below w0.heap.size w0 w' := by
  induction k using Nat.strongRecOn with
  | _ k ih =>
  intro u l0 a0 a1 a2 A3 c3 l3 r w0 w hB ho0 hr3 hc3 h
  cases k with
  | zero => exact absurd h (by simp [codec_encode.f])
  | succ k =>
  simp only [codec_encode.f] at h
  have huV := Try.underlying29
  have HR3 := Aside0.mk hr3
  have HC3 := Aside0.mk hc3
  clear hr3 hc3
  have HB := Aside0.mk hB
  have HO := Aside0.mk ho0
  clear hB ho0
  obtain ⟨t187, A20, H⟩ := Option.bind_eq_some_iff.mp h
  clear h
  have A2 := Aside0.mk A20
  clear A20
  by_cases c3' : t187.length + a2.size < 140737488355328
  · rw [if_pos c3'] at H
    have LMc3 := Aside0.mk c3'
    clear c3'
    obtain ⟨y190, hy190⟩ : ∃ y_ : List Int, y_ = (t187 ++ bytesOf a2) := ⟨_, rfl⟩
    rw [← hy190] at H
    have Ny190 := Aside0.mk hy190
    clear hy190
    have H' := Aside0.mk H
    clear H
    go_enter Try.func30, Try.ntmps30
    try go_wp2_with (first | ((with_reducible refine gate_dst (N := 3) rfl ?_); refine box_event ?hg (N := 3) ?hd (cs := #[.int .i64 a0, .int .i64 a1, .string a2, .slice A3 l3.length c3]) (t := 29) ?hr ?_; (case hd => rfl); (case hg => rfl); (case hr => first | (go_simp; done) | (go_simp; rfl)); intro gb186 hg w4 hbox hb; have n0_ := Aside0.mk (HB.out.trans (hb.mono HB.out.size)); have n4_ := Aside0.mk (Kd.R_below HO.out hb); have n1_ := Aside0.mk (hbox); have n2_ := Aside0.mk ((by rw [hg]; exact HB.out.size) : w0.heap.size ≤ gb186); clear HB HO; have HB := n0_; have BK186 := n1_; have GE186 := n2_; have HO := n4_; clear n0_ n1_ n2_ n4_; clear hb hbox hg))
    have n0_ := Aside0.mk (blk_drew BK186.out)
    have n1_ := Aside0.mk (below_drew1 HB.out)
    have n2_ := Aside0.mk (Kd.R_drew HO.out)
    clear BK186 HB HO
    have BK186 := n0_
    have HB := n1_
    have HO := n2_
    clear n0_ n1_ n2_
    refine start_ (n := 7) (S := fun w' => w'.cell? ⟨gb186, 0, none⟩ = some (.int .i64 a0) ∧ w'.cell? ⟨gb186, 1, none⟩ = some (.int .i64 a1) ∧ w'.cell? ⟨gb186, 2, none⟩ = some (.string a2) ∧ w'.cell? ⟨gb186, 3, none⟩ = some (.slice A3 l3.length c3)) (ds := []) #[false, false, false, false, false, false, false] (by kernel_rfl) rfl rfl ⟨(blk_cell BK186.out 0).trans rfl, (blk_cell BK186.out 1).trans rfl, (blk_cell BK186.out 2).trans rfl, (blk_cell BK186.out 3).trans rfl⟩ (fun hHeld => ?_)
    generalize w4.drew = w5 at BK186 HB HO hHeld ⊢
    refine pure_ (i := 0) (N := some 7) (v := ?_) (a' := ?_) #[true, false, false, false, false, false, false] rfl rfl (by kernel_rfl) (fun _ _ _ h => h) (Or.inl ⟨by rfl, ?_⟩) ?_ ?_
    rotate_left
    · intro w'
      go_simp
      with_reducible rfl
    rotate_left
    · simp only [Act.put, List.setIfInBounds_toArray, List.set_cons_zero, List.set_cons_succ, i64_w, i32_w]
      rfl
    refine pure_ (i := 3) (N := some 10) (v := ?_) (a' := ?_) #[true, false, false, true, false, false, false] rfl rfl (by kernel_rfl) (fun _ _ _ h => h) (Or.inl ⟨by rfl, ?_⟩) ?_ ?_
    rotate_left
    · intro w'
      go_simp
      with_reducible rfl
    rotate_left
    · simp only [Act.put, List.setIfInBounds_toArray, List.set_cons_zero, List.set_cons_succ, i64_w, i32_w]
      rfl
    refine take_ (i := 1) (N := some 8) (v := ?_) (a' := ?_) #[true, true, false, true, false, false, false] rfl rfl (by kernel_rfl) (fun _ _ _ h => h) (Or.inl ⟨by rfl, ?_⟩) hHeld ?_ ?_
    rotate_left
    · rintro w' ⟨s0, s1, s2, s3⟩
      go_simp
      with_reducible rfl
    rotate_left
    · simp only [Act.put, List.setIfInBounds_toArray, List.set_cons_zero, List.set_cons_succ, i64_w, i32_w]
      rfl
    refine take_ (i := 4) (N := some 11) (v := ?_) (a' := ?_) #[true, true, false, true, true, false, false] rfl rfl (by kernel_rfl) (fun _ _ _ h => h) (Or.inl ⟨by rfl, ?_⟩) hHeld ?_ ?_
    rotate_left
    · rintro w' ⟨s0, s1, s2, s3⟩
      go_simp
      with_reducible rfl
    rotate_left
    · simp only [Act.put, List.setIfInBounds_toArray, List.set_cons_zero, List.set_cons_succ, i64_w, i32_w]
      rfl
    refine one_ (i := 2) (N := some 9) #[true, true, true, true, true, false, false] rfl rfl (by kernel_rfl) (by decide) (fun K hK => ?_)
    refine goes_ Try.func35 (by kernel_rfl) rfl #[u, .agg #[.int .i64 a0, .int .i64 a1, .string a2, .slice A3 l3.length c3]] (by rfl) rfl rfl (by (try simp only [List.map_toArray, List.map_cons, List.map_nil]); first | done | rfl | (simp only [List.length_drop, List.length_take]; rfl)) ?_
    refine (codec_head.calls k (fun k_ => u.ownBlock = some k_) u l0 a0 a1 a2 A3 c3 l3 t187 w0 _ ?side0 ?side1 ?side2 ?side3 A2.out).mono ?_
    (case side0 => exact HB.out)
    (case side1 => exact R_okE HO.out (fun _ h => h))
    (case side2 => exact Kd.C_kept_came k29_heapE HR3.out HB.out (fun k_ hk => Kd.R_base HO.out k_ hk))
    (case side3 => exact HC3.out)
    rintro e w6 ⟨v188, rfl, ho0, hb, hkp⟩
    refine ⟨_, rfl, ?_⟩
    have n0_ := Aside0.mk (R_okE (ok' := fun _ => True) ho0 (fun _ _ => trivial))
    have n1_ := Aside0.mk (blk_kept BK186.out hkp (fun e_ => Kd.R_ne HO.out BK186.out (by decide) e_.symm))
    have n2_ := Aside0.mk hb
    clear BK186 HB HO
    have HO189 := n0_
    have BK186 := n1_
    have HB := n2_
    clear n0_ n1_ n2_ hb hkp ho0
    refine hK.out _ _ ⟨(blk_cell BK186.out 0).trans rfl, (blk_cell BK186.out 1).trans rfl, (blk_cell BK186.out 2).trans rfl, (blk_cell BK186.out 3).trans rfl⟩ (fun hHeld => ?_)
    clear hK K
    refine norm_ (a' := ?_) ?_ ?_
    rotate_left
    · show Act.put _ (some 9) _ = _
      simp only [Act.put, List.setIfInBounds_toArray, List.set_cons_zero, List.set_cons_succ, i64_w, i32_w]
      rfl
    refine one_ (i := 5) (N := some 12) #[true, true, true, true, true, true, false] rfl rfl (by kernel_rfl) (by decide) (fun K hK => ?_)
    refine Kd.R_append_str_step (w0 := w0) w0.heap.size (by rfl) (.tmp 9) _ 31 9 5 rfl Try.underlying31 Try.underlying9 info5 v188 t187 a2 (fun _ => True) rfl rfl ?aO ?aF ?aB ?aS ?aL ?_
    (case aB => exact HB.out)
    (case aF => exact (fun _ _ => trivial))
    (case aO => exact HO189.out)
    (case aS => exact HB.out.size)
    (case aL => have := LMc3.out; omega)
    intro v191 w7 ho hb hg hat
    rw [← Ny190.out] at ho
    have n0_ := Aside0.mk (blk_grown (g := gb186) (o := .cells #[.int .i64 a0, .int .i64 a1, .string a2, .slice A3 l3.length c3] 29 (0, 0)) BK186.out hg (Kd.R_ne HO189.out BK186.out (by decide)))
    have n1_ := Aside0.mk (hb)
    have n2_ := Aside0.mk (ho)
    clear BK186 HB HO189
    have BK186 := n0_
    have HB := n1_
    have HO192 := n2_
    clear n0_ n1_ n2_
    clear ho hb hg hat
    refine hK.out _ _ ⟨(blk_cell BK186.out 0).trans rfl, (blk_cell BK186.out 1).trans rfl, (blk_cell BK186.out 2).trans rfl, (blk_cell BK186.out 3).trans rfl⟩ (fun hHeld => ?_)
    clear hK K
    refine norm_ (a' := ?_) ?_ ?_
    rotate_left
    · show Act.put _ (some 12) _ = _
      simp only [Act.put, List.setIfInBounds_toArray, List.set_cons_zero, List.set_cons_succ, i64_w, i32_w]
      rfl
    refine pure_ (i := 6) (N := some 0) (v := ?_) (a' := ?_) #[true, true, true, true, true, true, true] rfl rfl (by kernel_rfl) (fun _ _ _ h => h) (Or.inl ⟨by rfl, ?_⟩) ?_ ?_
    rotate_left
    · intro w'
      go_simp
      with_reducible rfl
    rotate_left
    · simp only [Act.put, List.setIfInBounds_toArray, List.set_cons_zero, List.set_cons_succ, i64_w, i32_w]
      rfl
    refine done_ (by kernel_rfl) ?_
    have hcz0 : w7.cell? ⟨gb186, 3, none⟩ = some (.slice A3 l3.length c3) := (blk_cell BK186.out 3).trans rfl
    try go_wp2
    go_loopg [0, 16] k (fun kq v0 v16 w' => ∃ (x0 : List Int) (x16 : Int), v16 = .int .i64 x16 ∧ Aside0 (codec_encode.l0 kq x0 l3 x16 = some r) ∧ Aside0 (kq ≤ k) ∧ Aside0 (Kd.R (Kd.int .u8) 5 w' w0.heap.size (fun _ => True) v0 x0) ∧ Aside0 (Below w0.heap.size w0 w'))
    case atStart => exact ⟨y190, 0, rfl, H', ⟨Nat.le_refl _⟩, HO192, HB⟩
    case round =>
      clear H'
      obtain ⟨x0, x16, rfl, HA, HK1, HO, HB⟩ := hrel
      cases gk with
      | zero => exact absurd HA.out (by simp [codec_encode.l0])
      | succ k1 =>
        have H := HA.out
        clear HA
        simp only [codec_encode.l0] at H
        obtain ⟨A0', c0', rfl⟩ := Kd.R_slice HO.out
        by_cases c8 : x16 < (l3.length : Int)
        · rw [if_pos c8] at H
          have c8b0 : decide (x16 < (l3.length : Int)) = true := decide_eq_true c8
          by_cases c9 : 0 ≤ x16
          · rw [if_pos c9] at H
            obtain ⟨ad193, A193, c193, e193, hx0, hx1, hx2, hx3, hl193, hi193⟩ := at_T29 HR3.out x16 c9 c8
            subst e193
            replace hx0 := (HB.out.cell (World.block_lt_of_cell? w0 _ hx0)).trans hx0
            replace hx1 := (HB.out.cell (World.block_lt_of_cell? w0 _ hx1)).trans hx1
            replace hx2 := (HB.out.cell (World.block_lt_of_cell? w0 _ hx2)).trans hx2
            replace hx3 := (HB.out.cell (World.block_lt_of_cell? w0 _ hx3)).trans hx3
            have HRi := Aside0.mk hi193
            have HCi := Aside0.mk hl193
            clear hi193 hl193
            have p193 := eq_true c9
            have q193 := eq_true c8
            clear c8 c9
            by_cases c11 : (x0.length : Int) > 1048576
            · rw [if_pos c11] at H
              have c11b0 : decide ((x0.length : Int) > 1048576) = true := decide_eq_true c11
              have c11b1 : decide (1048576 < (x0.length : Int)) = true := decide_eq_true c11
              clear c11
              obtain rfl := Option.some.inj H
              clear H
              go_wp2
              go_ret
              exact ⟨_, rfl, by (with_reducible repeat (first | apply Kd.R_alloc | apply Kd.R_drewN | apply Kd.R_drew)); exact HO.out, HB.out.alloc HB.out.size _⟩
            · rw [if_neg c11] at H
              have c11b0 : decide ((x0.length : Int) > 1048576) = false := decide_eq_false c11
              have c11b1 : decide (1048576 < (x0.length : Int)) = false := decide_eq_false c11
              clear c11
              obtain ⟨t, A100, H⟩ := Option.bind_eq_some_iff.mp H
              have A10 := Aside0.mk A100
              have H' := Aside0.mk H
              clear A100 H
              go_wp2_with (go_at_call 30; (refine (ih k1 (by have := HK1.out; omega) _ x0 _ _ _ _ _ ((rd_T29 l3 x16).f3) t w0 _ ?s1 ?s2 ?s3 ?s4 A10.out).mono ?_); (case s1 => exact HB.out.alloc HB.out.size _); (case s2 => exact Kd.R_alloc HO.out _); (case s3 => exact HRi.out); (case s4 => exact HCi.out); rintro e w13 ⟨v195, rfl, ho1, hb1⟩; (have HO2 := Aside0.mk ho1); (have HB2 := Aside0.mk hb1); clear ho1 hb1)
              go_roundg k1
              case measure => have := HK1.out; omega
              case rel => exact ⟨t, wrap64 (x16 + 1), (by first | rfl | (simp; done) | (simp [*]; done) | (simp [ne_nil_bool]; done)), H', ⟨by have := HK1.out; omega⟩, HO2, HB2⟩
          · rw [if_neg c9] at H
            cases H
        · rw [if_neg c8] at H
          have c8b0 : decide (x16 < (l3.length : Int)) = false := decide_eq_false c8
          clear c8
          obtain rfl := Option.some.inj H
          go_wp2
          go_ret
          exact ⟨_, rfl, HO.out, HB.out⟩
  · rw [if_neg c3'] at H
    cases H

/-! ### codec_Encode: function 14, by hand -/
def codec_Encode.f (k : Nat) (a0_0 : Int) (a0_1 : Int) (a0_2 : ByteArray) (l0_3 : List S29) : Option (List Int × Int) := (codec_Valid.f k a0_0 a0_1 a0_2 l0_3).bind fun t => (if t = true then ((codec_encode.f k ([] : List Int) a0_0 a0_1 a0_2 l0_3).bind fun b => (if (b.length : Int) > 1048576 then some ([], 6) else some (b, 0))) else some ([], 1))
theorem codec_Encode.mono : ∀ a0 a1 a2 a3 k, LeO (codec_Encode.f k a0 a1 a2 a3) (codec_Encode.f (k + 1) a0 a1 a2 a3) := by
  intro a0 a1 a2 a3 k
  unfold codec_Encode.f
  repeat' first
  | (with_reducible exact codec_Valid.mono _ _ _ _ _)
  | (with_reducible exact codec_encode.mono _ _ _ _ _ _)
  | (with_reducible exact LeO.refl _)
  | (with_reducible exact LeO.none _)
  | (with_reducible refine LeO.ite ?_ ?_)
  | (with_reducible refine LeO.bind ?_ (fun _ => ?_))
set_option maxHeartbeats 8000000 in
set_option maxRecDepth 100000 in
theorem codec_Encode.calls (k : Nat) (a0_0 : Int) (a0_1 : Int) (a0_2 : ByteArray) (A0_3 : Option Addr) (c0_3 : Nat) (l0_3 : List (S29)) (r1 : List Int) (r2 : Int) (w : World) (hr0_3 : Kd.C k29 w A0_3 l0_3.length l0_3) (hc0_3 : l0_3.length ≤ c0_3) (h : codec_Encode.f k a0_0 a0_1 a0_2 l0_3 = some (r1, r2)) :
    Calls Try.prog 14 #[.agg #[.int .i64 a0_0, .int .i64 a0_1, .string a0_2, .slice A0_3 l0_3.length c0_3]] w fun e w' => ∃ v0_ : Value, e = .returned (.tuple #[v0_, .int .i64 r2]) ∧ Kd.R (Kd.int .u8) 5 w' w.heap.size (fun _ => True) v0_ r1 ∧ Below w.heap.size w w' := by
  unfold codec_Encode.f at h
  have huV := Try.underlying29
  have HR3 := Aside0.mk hr0_3
  have HC3 := Aside0.mk hc0_3
  clear hr0_3 hc0_3
  obtain ⟨t, A20, H⟩ := Option.bind_eq_some_iff.mp h
  clear h
  have A2 := Aside0.mk A20
  clear A20
  have HB := Aside0.mk ((Below.refl w.heap.size w).alloc (Nat.le_refl _) (.cells #[.int .i64 a0_0, .int .i64 a0_1, .string a0_2, .slice A0_3 l0_3.length c0_3] 29))
  cases t with
  | false =>
    rw [if_neg (by decide)] at H
    injection H with H
    injection H with H1 H2
    subst H1
    subst H2
    go_enter Try.func14, Try.ntmps14
    go_wp2_with (go_at_call 15; (refine (codec_Valid.calls k a0_0 a0_1 a0_2 _ _ l0_3 false _ ?s1 ?s2 A2.out).mono ?_); (case s1 => exact Kd.C_below HR3.out HB.out); (case s2 => exact HC3.out); rintro e w5 ⟨rfl, hb⟩; (have HB2 := Aside0.mk (HB.out.trans (hb.mono HB.out.size))); clear hb)
    go_ret2
    exact ⟨_, rfl, Kd.R_nil _ _ _ _ _, HB2.out⟩
  | true =>
    rw [if_pos rfl] at H
    obtain ⟨b, A30, H⟩ := Option.bind_eq_some_iff.mp H
    have A3 := Aside0.mk A30
    clear A30
    by_cases c1 : (b.length : Int) > 1048576
    · rw [if_pos c1] at H
      have c11b0 : decide ((b.length : Int) > 1048576) = true := decide_eq_true c1
      have c11b1 : decide (1048576 < (b.length : Int)) = true := decide_eq_true c1
      clear c1
      injection H with H
      injection H with H1 H2
      subst H1
      subst H2
      go_enter Try.func14, Try.ntmps14
      go_wp2_with (first | (go_at_call 15; (refine (codec_Valid.calls k a0_0 a0_1 a0_2 _ _ l0_3 true _ ?s1 ?s2 A2.out).mono ?_); (case s1 => exact Kd.C_below HR3.out HB.out); (case s2 => exact HC3.out); rintro e w5 ⟨rfl, hb⟩; (have HB2 := Aside0.mk (HB.out.trans (hb.mono HB.out.size))); (have hc0 : w5.cell? ⟨w.heap.size, 0, none⟩ = some (.int .i64 a0_0) := (blk_cell (blk_below (blk_new w _) hb) 0).trans rfl); (have hc1 : w5.cell? ⟨w.heap.size, 1, none⟩ = some (.int .i64 a0_1) := (blk_cell (blk_below (blk_new w _) hb) 1).trans rfl); (have hc2 : w5.cell? ⟨w.heap.size, 2, none⟩ = some (.string a0_2) := (blk_cell (blk_below (blk_new w _) hb) 2).trans rfl); (have hc3 : w5.cell? ⟨w.heap.size, 3, none⟩ = some (.slice A0_3 l0_3.length c0_3) := (blk_cell (blk_below (blk_new w _) hb) 3).trans rfl); clear hb) | (go_at_call 30; (refine (codec_encode.calls k _ [] a0_0 a0_1 a0_2 _ _ l0_3 b w _ ?t1 ?t2 ?t3 ?t4 A3.out).mono ?_); (case t1 => exact HB2.out); (case t2 => exact Kd.R_nil _ _ _ _ _); (case t3 => exact HR3.out); (case t4 => exact HC3.out); rintro e w6 ⟨v0, rfl, ho, hb⟩; obtain ⟨Ab, cb, rfl⟩ := Kd.R_slice ho; (have HO := Aside0.mk ho); (have HB3 := Aside0.mk hb); clear ho hb))
      go_ret2
      exact ⟨_, rfl, Kd.R_nil _ _ _ _ _, HB3.out⟩
    · rw [if_neg c1] at H
      have c11b0 : decide ((b.length : Int) > 1048576) = false := decide_eq_false c1
      have c11b1 : decide (1048576 < (b.length : Int)) = false := decide_eq_false c1
      clear c1
      injection H with H
      injection H with H1 H2
      subst H1
      subst H2
      go_enter Try.func14, Try.ntmps14
      go_wp2_with (first | (go_at_call 15; (refine (codec_Valid.calls k a0_0 a0_1 a0_2 _ _ l0_3 true _ ?s1 ?s2 A2.out).mono ?_); (case s1 => exact Kd.C_below HR3.out HB.out); (case s2 => exact HC3.out); rintro e w5 ⟨rfl, hb⟩; (have HB2 := Aside0.mk (HB.out.trans (hb.mono HB.out.size))); (have hc0 : w5.cell? ⟨w.heap.size, 0, none⟩ = some (.int .i64 a0_0) := (blk_cell (blk_below (blk_new w _) hb) 0).trans rfl); (have hc1 : w5.cell? ⟨w.heap.size, 1, none⟩ = some (.int .i64 a0_1) := (blk_cell (blk_below (blk_new w _) hb) 1).trans rfl); (have hc2 : w5.cell? ⟨w.heap.size, 2, none⟩ = some (.string a0_2) := (blk_cell (blk_below (blk_new w _) hb) 2).trans rfl); (have hc3 : w5.cell? ⟨w.heap.size, 3, none⟩ = some (.slice A0_3 l0_3.length c0_3) := (blk_cell (blk_below (blk_new w _) hb) 3).trans rfl); clear hb) | (go_at_call 30; (refine (codec_encode.calls k _ [] a0_0 a0_1 a0_2 _ _ l0_3 b w _ ?t1 ?t2 ?t3 ?t4 A3.out).mono ?_); (case t1 => exact HB2.out); (case t2 => exact Kd.R_nil _ _ _ _ _); (case t3 => exact HR3.out); (case t4 => exact HC3.out); rintro e w6 ⟨v0, rfl, ho, hb⟩; obtain ⟨Ab, cb, rfl⟩ := Kd.R_slice ho; (have HO := Aside0.mk ho); (have HB3 := Aside0.mk hb); clear ho hb))
      go_ret2
      exact ⟨_, rfl, HO.out, HB3.out⟩

/-! ### vinculumlaw03_awake: function 11 -/
def vinculumlaw03_awake.f (k : Nat)  : Option (Bool) := (codec_Encode.f k 1 28 (⟨#[]⟩ : ByteArray) ([] : List (S29))).bind fun bt119 => (if bt119.2 = 0 then (some ((strOfNums bt119.1).toList == ([120, 56] : List UInt8))) else (some false))
theorem vinculumlaw03_awake.mono : ∀ k, LeO (vinculumlaw03_awake.f k ) (vinculumlaw03_awake.f (k + 1) ) := by
  intro  k
  unfold vinculumlaw03_awake.f
  repeat' first
      | (with_reducible exact codec_Encode.mono _ _ _ _ _)
      | (with_reducible exact LeO.refl _)
      | (with_reducible exact LeO.none _)
      | (with_reducible refine LeO.ite ?_ ?_)
      | (with_reducible refine LeO.bind ?_ (fun _ => ?_))
      | exact codec_Encode.mono _ _ _ _ _
      | exact LeO.none _
      | refine LeO.ite ?_ ?_
      | refine LeO.bind ?_ (fun _ => ?_)
set_option maxHeartbeats 8000000 in
set_option maxRecDepth 100000 in
theorem vinculumlaw03_awake.calls (k : Nat)  (r : Bool) (w : World) (h : vinculumlaw03_awake.f k  = some r) :
    Calls Try.prog 11 #[] w fun e w' => e = .returned (.bool r) ∧ Below w.heap.size w w' := by
  have hu29 := Try.underlying29
  have HB := Aside0.mk (Below.refl w.heap.size w)
  have H : ((codec_Encode.f k 1 28 (⟨#[]⟩ : ByteArray) ([] : List (S29))).bind fun bt119 => (if bt119.2 = 0 then (some ((strOfNums bt119.1).toList == ([120, 56] : List UInt8))) else (some false))) = some r := h
  clear h
  replace H := Option.bind_eq_some_iff.mp H
  obtain ⟨⟨t119, t122⟩, A10, H⟩ := H
  replace H : (if t122 = 0 then (some ((strOfNums t119).toList == ([120, 56] : List UInt8))) else (some false)) = some r := H
  have A1 := Aside0.mk A10
  clear A10
  by_cases c2 : t122 = 0
  · rw [if_pos c2] at H
    have c2b0 : (t122 == 0) = true := beq_iff_eq.mpr c2
    have c2b1 : (t122 != 0) = false := bne_eq_false_iff_eq.mpr c2
    clear c2
    obtain rfl := Option.some.inj H
    go_enter Try.func11, Try.ntmps11
    go_wp2_with (first | ((with_reducible refine gate_callee (f := 14) rfl ?_); refine goesL_ (some 5) rfl rfl Try.func14 (by kernel_rfl) rfl #[.agg #[.int .i64 1, .int .i64 28, .string (⟨#[]⟩ : ByteArray), .slice none 0 0]] rfl (by (try simp only [List.map_toArray, List.map_cons, List.map_nil]); first | done | rfl | (simp only [List.length_drop, List.length_take]; rfl)) ?_; (refine (codec_Encode.calls k 1 28 (⟨#[]⟩ : ByteArray) _ _ ([] : List (S29)) t119 t122 _ ?side1 ?side2 A1.out).mono ?_); (case side1 => exact Kd.C_nil _ _); (case side2 => exact Nat.le_refl _); rintro e w3 ⟨v120, rfl, ho0, hb⟩; refine ⟨_, rfl, ?_⟩; have n0_ := Aside0.mk (Kd.R_lower ho0 (below_size (by repeat (first | (with_reducible first | exact HB.out | apply below_alloc | apply pw_below_drewN | apply below_drew1) | exact HB.out)))); have n1_ := Aside0.mk (below_step (by repeat (first | (with_reducible first | exact HB.out | apply below_alloc | apply pw_below_drewN | apply below_drew1) | exact HB.out)) hb); clear HB; have HO121 := n0_; have HB := n1_; clear n0_ n1_; (try clear hb); (try clear hb2); (try clear hk); (try clear hi); (try clear ho0); have hcv4 := own_string (P := Try.prog) Try.underlying31 Try.underlying5 Try.underlying9 (Kd.own_of_R HO121.out)))
    go_ret
    exact ⟨by first | rfl | (simp [errW_none, errW_some] <;> rfl) | (simp [*, errW_none, errW_some] <;> rfl), by repeat (first | (with_reducible first | exact HB.out | apply below_alloc | apply pw_below_drewN | apply below_drew1) | exact HB.out)⟩
  · rw [if_neg c2] at H
    have c2b0 : (t122 == 0) = false := beq_eq_false_iff_ne.mpr c2
    have c2b1 : (t122 != 0) = true := bne_iff_ne.mpr c2
    obtain rfl := Option.some.inj H
    go_enter Try.func11, Try.ntmps11
    go_wp2_with (first | ((with_reducible refine gate_callee (f := 14) rfl ?_); refine goesL_ (some 5) rfl rfl Try.func14 (by kernel_rfl) rfl #[.agg #[.int .i64 1, .int .i64 28, .string (⟨#[]⟩ : ByteArray), .slice none 0 0]] rfl (by (try simp only [List.map_toArray, List.map_cons, List.map_nil]); first | done | rfl | (simp only [List.length_drop, List.length_take]; rfl)) ?_; (refine (codec_Encode.calls k 1 28 (⟨#[]⟩ : ByteArray) _ _ ([] : List (S29)) t119 t122 _ ?side1 ?side2 A1.out).mono ?_); (case side1 => exact Kd.C_nil _ _); (case side2 => exact Nat.le_refl _); rintro e w5 ⟨v120, rfl, ho0, hb⟩; refine ⟨_, rfl, ?_⟩; have n0_ := Aside0.mk (Kd.R_lower ho0 (below_size (by repeat (first | (with_reducible first | exact HB.out | apply below_alloc | apply pw_below_drewN | apply below_drew1) | exact HB.out)))); have n1_ := Aside0.mk (below_step (by repeat (first | (with_reducible first | exact HB.out | apply below_alloc | apply pw_below_drewN | apply below_drew1) | exact HB.out)) hb); clear HB; have HO121 := n0_; have HB := n1_; clear n0_ n1_; (try clear hb); (try clear hb2); (try clear hk); (try clear hi); (try clear ho0)))
    go_ret
    exact ⟨by first | rfl | (simp [errW_none, errW_some] <;> rfl) | (simp [*, errW_none, errW_some] <;> rfl), by repeat (first | (with_reducible first | exact HB.out | apply below_alloc | apply pw_below_drewN | apply below_drew1) | exact HB.out)⟩

end Go.Proofs.Ytploigkfnkgjiaa.PC
