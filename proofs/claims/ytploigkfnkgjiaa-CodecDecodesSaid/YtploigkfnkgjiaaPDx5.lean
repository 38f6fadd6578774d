-- Written by a program of this place (wip/gen.py) with the kit's print; not trusted: Lean checks it.
import Derived.Test.YtploigkfnkgjiaaPDx0
import Derived.Test.YtploigkfnkgjiaaPDx4
namespace Go.Proofs.Ytploigkfnkgjiaa.PD
open Go.RowKit Go.Proofs.YtploigkfnkgjiaaW.PrintWords Go.Proofs.YtploigkfnkgjiaaW.PrintLast Go.Proofs.YtploigkfnkgjiaaW.PrintMore
attribute [local go_sem] max2_int min2_int max_two min_two max_three min_three max_four min_four   -- for this text's walks alone
set_option linter.unusedVariables false
set_option linter.unusedSimpArgs false

/-! ### codec_Next: function 26, by hand -/
theorem st4_far {W : World} {b g t : Nat} {cs : Array Value} (h : W.heap[g]? = some (.cells cs t (0, 0))) (hne : g ≠ b) (v0 v1 v2 v3 : Value) : (st4 W b v0 v1 v2 v3).heap[g]? = some (.cells cs t (0, 0)) := blk_far (blk_far (blk_far (blk_far h (p := ⟨b, 0, none⟩) hne v0) (p := ⟨b, 1, none⟩) hne v1) (p := ⟨b, 2, none⟩) hne v2) (p := ⟨b, 3, none⟩) hne v3
theorem next_end {w W : World} {v0 v1 v2 v3 v4 : Value} {e : Int} {tm : Array Value} {R : Ending → World → Prop} (ht : tm[2]? = some (.pointer (some ⟨w.heap.size, 0, none⟩))) (ht5 : tm[3]? = some v4) (ht6 : tm[4]? = some (.int .i64 e)) (hb : W.heap[w.heap.size]? = some (.cells #[v0, v1, v2, v3] 29 (0, 0)))
    (h : R (.returned (.tuple #[.agg #[v0, v1, v2, v3], v4, .int .i64 e])) W) : bodyPost Try.prog Try.f26 R .ret { tmps := tm, defers := [] } W := by
  have g0 : W.cell? ⟨w.heap.size, 0, none⟩ = some v0 := (blk_cell hb 0).trans rfl
  have g1 : W.cell? ⟨w.heap.size, 1, none⟩ = some v1 := (blk_cell hb 1).trans rfl
  have g2 : W.cell? ⟨w.heap.size, 2, none⟩ = some v2 := (blk_cell hb 2).trans rfl
  have g3 : W.cell? ⟨w.heap.size, 3, none⟩ = some v3 := (blk_cell hb 3).trans rfl
  refine bodyPost_ret (v := .tuple #[.agg #[v0, v1, v2, v3], v4, .int .i64 e]) ?hv rfl h
  case hv =>
    simp [results, Try.f26, go_sem, g0, g1, g2, g3, ht, ht5, ht6]
set_option maxHeartbeats 3200000 in
set_option maxRecDepth 100000 in
theorem next_ok (w : World) (A : Option Addr) (c : Nat) (l : List Int) (hr : (Kd.int .u8).C w A l.length l) (hc : l.length ≤ c) (hb : Bytes l) (k : Nat) (x : S29) (l1 : List Int) (hlen : l1.length ≤ 140737488355000) (hv : rvalue k l 64 = some (x, true, l1)) :
    Calls Try.prog 26 #[.slice A l.length c] w fun e w' => ∃ v3 v4, e = .returned (.tuple #[.agg #[.int .i64 x.f0, .int .i64 x.f1, .string x.f2, v3], v4, .int .i64 0]) ∧ Kd.R k29 29 w' w.heap.size (fun k => some k ≠ v4.ownBlock) v3 x.f3 ∧ Kd.R (Kd.int .u8) 5 w' w.heap.size (fun _ => True) v4 l1 ∧ Below w.heap.size w w' := by
  have HR := Aside0.mk hr
  have HC := Aside0.mk hc
  have HLEN := Aside0.mk hlen
  clear hlen
  clear hr hc
  have W1 := Aside0.mk (show Below w.heap.size w ((w.alloc (.cells #[.int .i64 0, .int .i64 0, .string ⟨#[]⟩, .slice none 0 0] 29)).alloc (.cells #[.slice A l.length c] 64)) from ((Below.refl _ w).alloc (Nat.le_refl _) _).alloc (by simp) _)
  have S1 : Aside0 (RdS w ((w.alloc (.cells #[.int .i64 0, .int .i64 0, .string ⟨#[]⟩, .slice none 0 0] 29)).alloc (.cells #[.slice A l.length c] 64)) (w.heap.size + 1) l) := ⟨⟨A, c, by have h := blk_new (w.alloc (.cells #[.int .i64 0, .int .i64 0, .string ⟨#[]⟩, .slice none 0 0] 29)) (.cells #[.slice A l.length c] 64); rw [World.size_alloc] at h; exact h, HR.out, HC.out⟩⟩
  have B2 := Aside0.mk (blk_alloc (blk_new w (.cells #[.int .i64 0, .int .i64 0, .string ⟨#[]⟩, .slice none 0 0] 29)) (.cells #[.slice A l.length c] 64))
  go_enter Try.func26, Try.ntmps26
  go_wp2_with (first | (go_at_call 34; (refine (value_all k w _ (w.heap.size + 1) l 64 hb (by omega) W1.out S1.out x true l1 hv).mono ?_); rintro e w2 ⟨v, rfl, hv3, p1, _, p2, p3⟩; obtain ⟨A6, c6, rfl⟩ := Kd.R_slice hv3; (have RV := Aside0.mk hv3); clear hv3; (have P1 := Aside0.mk p1); (have P2 := Aside0.mk p2); (have P3 := Aside0.mk p3)))
  obtain ⟨A2, c2, hbg, hCg, hcg⟩ := P1.out
  have B6 := Aside0.mk (blk_new w2 (.cells #[.int .i64 x.f0, .int .i64 x.f1, .string x.f2, .slice A6 x.f3.length c6] 29))
  have BG := Aside0.mk (blk_alloc hbg (.cells #[.int .i64 x.f0, .int .i64 x.f1, .string x.f2, .slice A6 x.f3.length c6] 29))
  have BZ := Aside0.mk (blk_alloc (blk_kept B2.out P3.out (fun e_ => by omega)) (.cells #[.int .i64 x.f0, .int .i64 x.f1, .string x.f2, .slice A6 x.f3.length c6] 29))
  have HB3 := Aside0.mk (P2.out.alloc P2.out.size (.cells #[.int .i64 x.f0, .int .i64 x.f1, .string x.f2, .slice A6 x.f3.length c6] 29))
  have N6 := Aside0.mk (show w.heap.size ≠ w2.heap.size from by have := blk_lt hbg; omega)
  have HCG := Aside0.mk hCg
  obtain ⟨sz, hsz⟩ : ∃ sz, (w2.alloc (.cells #[.int .i64 x.f0, .int .i64 x.f1, .string x.f2, .slice A6 x.f3.length c6] 29)).heap.size = sz := ⟨_, rfl⟩
  have RV1 := Aside0.mk (Kd.R_mono (ok' := fun k => w.heap.size + 2 ≤ k ∧ k < sz) (Kd.R_bound (Kd.R_alloc RV.out (.cells #[.int .i64 x.f0, .int .i64 x.f1, .string x.f2, .slice A6 x.f3.length c6] 29))) (fun k hk => ⟨by have := hk.1; simp only [World.size_alloc] at this; omega, by rw [← hsz]; exact hk.2.2.1⟩))
  have SZ := Aside0.mk (show sz ≤ (w2.alloc (.cells #[.int .i64 x.f0, .int .i64 x.f1, .string x.f2, .slice A6 x.f3.length c6] 29)).heap.size from Nat.le_of_eq hsz.symm)
  clear hsz RV
  clear hbg hcg hCg
  generalize hb6 : w2.heap.size = b6 at B6 N6 ⊢
  generalize w2.alloc (.cells #[.int .i64 x.f0, .int .i64 x.f1, .string x.f2, .slice A6 x.f3.length c6] 29) = W3 at B6 BG BZ HB3 RV1 SZ ⊢
  clear hb6
  have n0_ := Aside0.mk (blk_drew B6.out)
  have n1_ := Aside0.mk (blk_drew BG.out)
  have n2_ := Aside0.mk (blk_drew BZ.out)
  have n3_ := Aside0.mk (below_drew1 HB3.out)
  have n5_ := Aside0.mk (Kd.R_drew RV1.out)
  have n6_ := Aside0.mk (show sz ≤ W3.drew.heap.size from SZ.out)
  clear B6 BG BZ HB3 RV1 SZ
  have RV1 := n5_
  have SZ := n6_
  clear n5_ n6_
  have B6 := n0_
  have BG := n1_
  have BZ := n2_
  have HB3 := n3_
  clear n0_ n1_ n2_ n3_
  refine start_ (n := 10) (S := fun w' => w'.cell? ⟨w.heap.size + 1, 0, none⟩ = some (.slice A2 l1.length c2) ∧ w'.cell? ⟨b6, 0, none⟩ = some (.int .i64 x.f0) ∧ w'.cell? ⟨b6, 1, none⟩ = some (.int .i64 x.f1) ∧ w'.cell? ⟨b6, 2, none⟩ = some (.string x.f2) ∧ w'.cell? ⟨b6, 3, none⟩ = some (.slice A6 x.f3.length c6)) (ds := []) #[false, false, false, false, false, false, false, false, false, false] (by kernel_rfl) rfl rfl ⟨(blk_cell BG.out 0).trans rfl, (blk_cell B6.out 0).trans rfl, (blk_cell B6.out 1).trans rfl, (blk_cell B6.out 2).trans rfl, (blk_cell B6.out 3).trans rfl⟩ (fun hHeld => ?_)
  generalize W3.drew = W4 at B6 BG BZ HB3 RV1 SZ hHeld ⊢
  refine pure_ (i := 2) (N := some 21) (v := ?_) (a' := ?_) #[false, false, true, false, false, false, false, false, false, false] rfl rfl (by kernel_rfl) (fun _ _ _ h => h) (Or.inl ⟨by rfl, ?_⟩) ?_ ?_
  rotate_left
  · intro w'
    go_simp
    with_reducible rfl
  rotate_left
  · simp only [Act.put, List.setIfInBounds_toArray, List.set_cons_zero, List.set_cons_succ, i64_w, i32_w]
    rfl
  refine pure_ (i := 3) (N := some 22) (v := ?_) (a' := ?_) #[false, false, true, true, false, false, false, false, false, false] rfl rfl (by kernel_rfl) (fun _ _ _ h => h) (Or.inl ⟨by rfl, ?_⟩) ?_ ?_
  rotate_left
  · intro w'
    go_simp
    with_reducible rfl
  rotate_left
  · simp only [Act.put, List.setIfInBounds_toArray, List.set_cons_zero, List.set_cons_succ, i64_w, i32_w]
    rfl
  refine pure_ (i := 4) (N := some 23) (v := ?_) (a' := ?_) #[false, false, true, true, true, false, false, false, false, false] rfl rfl (by kernel_rfl) (fun _ _ _ h => h) (Or.inl ⟨by rfl, ?_⟩) ?_ ?_
  rotate_left
  · intro w'
    go_simp
    with_reducible rfl
  rotate_left
  · simp only [Act.put, List.setIfInBounds_toArray, List.set_cons_zero, List.set_cons_succ, i64_w, i32_w]
    rfl
  refine take_ (i := 0) (N := some 19) (v := ?_) (a' := ?_) #[true, false, true, true, true, false, false, false, false, false] rfl rfl (by kernel_rfl) (fun _ _ _ h => h) (Or.inl ⟨by rfl, ?_⟩) hHeld ?_ ?_
  rotate_left
  · rintro w' ⟨s0, s1, s2, s3, s4⟩
    go_simp
    with_reducible rfl
  rotate_left
  · simp only [Act.put, List.setIfInBounds_toArray, List.set_cons_zero, List.set_cons_succ, i64_w, i32_w]
    rfl
  refine take_ (i := 5) (N := some 24) (v := ?_) (a' := ?_) #[true, false, true, true, true, true, false, false, false, false] rfl rfl (by kernel_rfl) (fun _ _ _ h => h) (Or.inl ⟨by rfl, ?_⟩) hHeld ?_ ?_
  rotate_left
  · rintro w' ⟨s0, s1, s2, s3, s4⟩
    go_simp
    with_reducible rfl
  rotate_left
  · simp only [Act.put, List.setIfInBounds_toArray, List.set_cons_zero, List.set_cons_succ, i64_w, i32_w]
    rfl
  refine one_ (i := 1) (N := some 20) #[true, true, true, true, true, true, false, false, false, false] rfl rfl (by kernel_rfl) (by decide) (fun K hK => ?_)
  refine Kd.R_lit_step (Kd.int .u8) (w0 := w) w.heap.size 5 (by rfl) (N := 20) rfl (xs := ([] : List Int)) (inner := []) (ok := fun k => k ≠ w.heap.size ∧ k ≠ w.heap.size + 1 ∧ k ≠ b6) (okp := fun k => k ≠ w.heap.size ∧ k ≠ w.heap.size + 1 ∧ k ≠ b6) ?hr ?hp (fun _ hk => hk) ?hf HB3.out HB3.out.size (by simp) ?_
  (case hr => first | (go_simp; done) | (go_simp; rfl))
  (case hp => exact (Reps.none _ _))
  (case hf => have h1 := blk_lt B6.out; have h2 := blk_lt BG.out; have h3 := blk_lt BZ.out; exact ⟨by omega, by omega, by omega⟩)
  intro v20 W5 ho hb hgr hown20
  have n5_ := Aside0.mk (Kd.R_grown RV1.out hgr (by simp))
  have OW20 := Aside0.mk hown20
  have n6_ := Aside0.mk (Nat.le_trans SZ.out hgr.size)
  have OWS : Aside0 (∀ k, v20.ownBlock = some k → sz ≤ k) := ⟨fun k e_ => by obtain ⟨b, h1, h2⟩ := hown20; rw [h1] at e_; injection e_ with e_; have := SZ.out; omega⟩
  clear RV1 SZ hown20
  have RV1 := n5_
  have SZ := n6_
  clear n5_ n6_
  have n0_ := Aside0.mk (blk_grown B6.out hgr (by simp))
  have n1_ := Aside0.mk (blk_grown BG.out hgr (by simp))
  have n2_ := Aside0.mk (blk_grown BZ.out hgr (by simp))
  have n3_ := Aside0.mk hb
  have HO := Aside0.mk ho
  clear B6 BG BZ HB3 ho hb hgr
  have B6 := n0_
  have BG := n1_
  have BZ := n2_
  have HB3 := n3_
  clear n0_ n1_ n2_ n3_
  refine hK.out _ _ ⟨(blk_cell BG.out 0).trans rfl, (blk_cell B6.out 0).trans rfl, (blk_cell B6.out 1).trans rfl, (blk_cell B6.out 2).trans rfl, (blk_cell B6.out 3).trans rfl⟩ (fun hHeld => ?_)
  clear hK K
  refine norm_ (a' := ?_) ?_ ?_
  rotate_left
  · show Act.put _ (some 20) _ = _
    simp only [Act.put, List.setIfInBounds_toArray, List.set_cons_zero, List.set_cons_succ, i64_w, i32_w]
    rfl
  refine one_ (i := 6) (N := some 25) #[true, true, true, true, true, true, true, false, false, false] rfl rfl (by kernel_rfl) (by decide) (fun K hK => ?_)
  refine Kd.R_append_rows_step (Kd.int .u8) (w0 := w) w.heap.size (by rfl) (.tmp 20) (.tmp 24) 31 5 (.int .u8 0) 1 rfl Try.underlying31 info5 rfl (by decide) (by omega) v20 [] l1 A2 l1.length c2 (fun k => k ≠ w.heap.size ∧ k ≠ w.heap.size + 1 ∧ k ≠ b6) (fun _ => False) rfl rfl HO.out ?aR (fun _ _ h => h) (fun _ h => h.elim) ?aF HB3.out HB3.out.size ?aL ?_
  (case aR => exact Kd.C_below HCG.out HB3.out)
  (case aF => intro k hk; have h1 := blk_lt B6.out; have h2 := blk_lt BG.out; have h3 := blk_lt BZ.out; exact ⟨by omega, by omega, by omega⟩)
  (case aL => have := HLEN.out; simp only [List.length_nil]; omega)
  intro v25 W6 ho hb hgr hat
  have n5_ := Aside0.mk (Kd.R_grown RV1.out hgr (fun k hk e_ => by have := OWS.out k e_.symm; omega))
  have OW25 : Aside0 (∀ k, v25.ownBlock = some k → sz ≤ k) := ⟨fun k e_ => hat.elim (fun h => OWS.out k (h ▸ e_)) (fun ⟨b, h1, h2⟩ => by rw [h1] at e_; injection e_ with e_; have := SZ.out; omega)⟩
  clear RV1 SZ
  have RV1 := n5_
  clear n5_
  have n0_ := Aside0.mk (blk_grown B6.out hgr (Kd.R_away HO.out (fun _ hk => hk.2.2)))
  have n1_ := Aside0.mk (blk_grown BG.out hgr (Kd.R_away HO.out (fun _ hk => hk.2.1)))
  have n2_ := Aside0.mk (blk_grown BZ.out hgr (Kd.R_away HO.out (fun _ hk => hk.1)))
  have n3_ := Aside0.mk hb
  rw [List.nil_append] at ho
  have n4_ := Aside0.mk ho
  clear B6 BG BZ HB3 HO ho hb hgr hat
  have B6 := n0_
  have BG := n1_
  have BZ := n2_
  have HB3 := n3_
  have HO := n4_
  clear n0_ n1_ n2_ n3_ n4_
  refine hK.out _ _ ⟨(blk_cell BG.out 0).trans rfl, (blk_cell B6.out 0).trans rfl, (blk_cell B6.out 1).trans rfl, (blk_cell B6.out 2).trans rfl, (blk_cell B6.out 3).trans rfl⟩ (fun hHeld => ?_)
  clear hK K
  refine norm_ (a' := ?_) ?_ ?_
  rotate_left
  · show Act.put _ (some 25) _ = _
    simp only [Act.put, List.setIfInBounds_toArray, List.set_cons_zero, List.set_cons_succ, i64_w, i32_w]
    rfl
  refine one_ (i := 7) (N := none) #[true, true, true, true, true, true, true, true, false, false] rfl rfl (by kernel_rfl) (by decide) (fun K hK => ?_)
  have hz0 : W6.cell? ⟨w.heap.size, 0, none⟩ = some (.int .i64 0) := (blk_cell BZ.out 0).trans rfl
  have hz1 : W6.cell? ⟨w.heap.size, 1, none⟩ = some (.int .i64 0) := (blk_cell BZ.out 1).trans rfl
  have hz2 : W6.cell? ⟨w.heap.size, 2, none⟩ = some (.string ⟨#[]⟩) := (blk_cell BZ.out 2).trans rfl
  have hz3 : W6.cell? ⟨w.heap.size, 3, none⟩ = some (.slice none 0 0) := (blk_cell BZ.out 3).trans rfl
  have hf0 := blk_frozen BZ.out 0
  have hf1 := blk_frozen BZ.out 1
  have hf2 := blk_frozen BZ.out 2
  have hf3 := blk_frozen BZ.out 3
  refine skip_ (w1 := st4 W6 w.heap.size (.int .i64 x.f0) (.int .i64 x.f1) (.string x.f2) (.slice A6 x.f3.length c6)) (by rfl) rfl ?_ ?_
  · unfold st4
    go_simp
  have n0_ := Aside0.mk (st4_far B6.out N6.out.symm (.int .i64 x.f0) (.int .i64 x.f1) (.string x.f2) (.slice A6 x.f3.length c6))
  have n1_ := Aside0.mk (st4_far BG.out (show w.heap.size + 1 ≠ w.heap.size by omega) (.int .i64 x.f0) (.int .i64 x.f1) (.string x.f2) (.slice A6 x.f3.length c6))
  have n2_ := Aside0.mk (st4_blk BZ.out (.int .i64 x.f0) (.int .i64 x.f1) (.string x.f2) (.slice A6 x.f3.length c6))
  have n3_ := Aside0.mk (st4_below HB3.out (Nat.le_refl _) (.int .i64 x.f0) (.int .i64 x.f1) (.string x.f2) (.slice A6 x.f3.length c6))
  have n4_ := Aside0.mk (Kd.R_kept HO.out (st4_kept (Kept.refl W6 (fun k => k = w.heap.size)) (.inl rfl) (.int .i64 x.f0) (.int .i64 x.f1) (.string x.f2) (.slice A6 x.f3.length c6)) (fun k hk e_ => hk.1 e_))
  have n5_ := Aside0.mk (Kd.R_kept RV1.out (st4_kept (Kept.refl W6 (fun k => k = w.heap.size)) (.inl rfl) (.int .i64 x.f0) (.int .i64 x.f1) (.string x.f2) (.slice A6 x.f3.length c6)) (fun k hk e_ => by omega))
  clear hz0 hz1 hz2 hz3 hf0 hf1 hf2 hf3 B6 BG BZ HB3 HO RV1
  have RV1 := n5_
  clear n5_
  have B6 := n0_
  have BG := n1_
  have BZ := n2_
  have HB3 := n3_
  have HO := n4_
  clear n0_ n1_ n2_ n3_ n4_
  refine hK.out _ _ ⟨(blk_cell BG.out 0).trans rfl, (blk_cell B6.out 0).trans rfl, (blk_cell B6.out 1).trans rfl, (blk_cell B6.out 2).trans rfl, (blk_cell B6.out 3).trans rfl⟩ (fun hHeld => ?_)
  clear hK K
  generalize st4 W6 w.heap.size (.int .i64 x.f0) (.int .i64 x.f1) (.string x.f2) (.slice A6 x.f3.length c6) = W7 at B6 BG BZ HB3 HO RV1 hHeld ⊢
  refine pure_ (i := 8) (N := some 3) (v := ?_) (a' := ?_) #[true, true, true, true, true, true, true, true, true, false] rfl rfl (by kernel_rfl) (fun _ _ _ h => h) (Or.inl ⟨by rfl, ?_⟩) ?_ ?_
  rotate_left
  · intro w'
    go_simp
    with_reducible rfl
  rotate_left
  · simp only [Act.put, List.setIfInBounds_toArray, List.set_cons_zero, List.set_cons_succ, i64_w, i32_w]
    rfl
  refine pure_ (i := 9) (N := some 4) (v := ?_) (a' := ?_) #[true, true, true, true, true, true, true, true, true, true] rfl rfl (by kernel_rfl) (fun _ _ _ h => h) (Or.inl ⟨by rfl, ?_⟩) ?_ ?_
  rotate_left
  · intro w'
    go_simp
    with_reducible rfl
  rotate_left
  · simp only [Act.put, List.setIfInBounds_toArray, List.set_cons_zero, List.set_cons_succ, i64_w, i32_w]
    rfl
  refine done_ (by kernel_rfl) ?_
  try go_wp2
  refine next_end (w := w) (v4 := v25) (e := 0) ?_ ?_ ?_ BZ.out ?_
  · rfl
  · rfl
  · rfl
  exact ⟨_, v25, rfl, Kd.R_mono RV1.out (fun k hk e_ => by have := OW25.out k e_.symm; omega), Kd.R_mono HO.out (fun _ _ => trivial), HB3.out⟩
set_option maxHeartbeats 3200000 in
set_option maxRecDepth 100000 in
theorem next_fail (w : World) (A : Option Addr) (c : Nat) (l : List Int) (hr : (Kd.int .u8).C w A l.length l) (hc : l.length ≤ c) (hb : Bytes l) (k : Nat) (x : S29) (l1 : List Int) (hv : rvalue k l 64 = some (x, false, l1)) :
    Calls Try.prog 26 #[.slice A l.length c] w fun e w' => e = .returned (.tuple #[.agg #[.int .i64 0, .int .i64 0, .string ⟨#[]⟩, .slice none 0 0], .slice none 0 0, .int .i64 4]) ∧ Below w.heap.size w w' := by
  have HR := Aside0.mk hr
  have HC := Aside0.mk hc
  clear hr hc
  have W1 := Aside0.mk (show Below w.heap.size w ((w.alloc (.cells #[.int .i64 0, .int .i64 0, .string ⟨#[]⟩, .slice none 0 0] 29)).alloc (.cells #[.slice A l.length c] 64)) from ((Below.refl _ w).alloc (Nat.le_refl _) _).alloc (by simp) _)
  have S1 : Aside0 (RdS w ((w.alloc (.cells #[.int .i64 0, .int .i64 0, .string ⟨#[]⟩, .slice none 0 0] 29)).alloc (.cells #[.slice A l.length c] 64)) (w.heap.size + 1) l) := ⟨⟨A, c, by have h := blk_new (w.alloc (.cells #[.int .i64 0, .int .i64 0, .string ⟨#[]⟩, .slice none 0 0] 29)) (.cells #[.slice A l.length c] 64); rw [World.size_alloc] at h; exact h, HR.out, HC.out⟩⟩
  have B2 := Aside0.mk (blk_alloc (blk_new w (.cells #[.int .i64 0, .int .i64 0, .string ⟨#[]⟩, .slice none 0 0] 29)) (.cells #[.slice A l.length c] 64))
  go_enter Try.func26, Try.ntmps26
  go_wp2_with (first | (go_at_call 34; (refine (value_all k w _ (w.heap.size + 1) l 64 hb (by omega) W1.out S1.out x false l1 hv).mono ?_); rintro e w2 ⟨v, rfl, hv3, p1, _, p2, p3⟩; obtain ⟨A6, c6, rfl⟩ := Kd.R_slice hv3; clear hv3; (have P2 := Aside0.mk p2); (have BY := Aside0.mk (blk_alloc (blk_kept B2.out p3 (fun e_ => by omega)) (.cells #[.int .i64 x.f0, .int .i64 x.f1, .string x.f2, .slice A6 x.f3.length c6] 29))); clear p1 p2 p3; (have hy0 : (w2.alloc (.cells #[.int .i64 x.f0, .int .i64 x.f1, .string x.f2, .slice A6 x.f3.length c6] 29)).cell? ⟨w.heap.size, 0, none⟩ = some (.int .i64 0) := (blk_cell BY.out 0).trans rfl); (have hy1 : (w2.alloc (.cells #[.int .i64 x.f0, .int .i64 x.f1, .string x.f2, .slice A6 x.f3.length c6] 29)).cell? ⟨w.heap.size, 1, none⟩ = some (.int .i64 0) := (blk_cell BY.out 1).trans rfl); (have hy2 : (w2.alloc (.cells #[.int .i64 x.f0, .int .i64 x.f1, .string x.f2, .slice A6 x.f3.length c6] 29)).cell? ⟨w.heap.size, 2, none⟩ = some (.string ⟨#[]⟩) := (blk_cell BY.out 2).trans rfl); (have hy3 : (w2.alloc (.cells #[.int .i64 x.f0, .int .i64 x.f1, .string x.f2, .slice A6 x.f3.length c6] 29)).cell? ⟨w.heap.size, 3, none⟩ = some (.slice none 0 0) := (blk_cell BY.out 3).trans rfl); (have hyf0 := blk_frozen BY.out 0); (have hyf1 := blk_frozen BY.out 1); (have hyf2 := blk_frozen BY.out 2); (have hyf3 := blk_frozen BY.out 3)))
  refine next_end (w := w) (v4 := .slice none 0 0) (e := 4) ?_ ?_ ?_ (st4_blk BY.out (.int .i64 0) (.int .i64 0) (.string ⟨#[]⟩) (.slice none 0 0)) ?_
  · rfl
  · rfl
  · rfl
  exact ⟨rfl, st4_below (P2.out.alloc P2.out.size _) (Nat.le_refl _) _ _ _ _⟩
theorem rvalue_mono_l : ∀ k, (∀ y0 y1, LeO (rvalue k y0 y1) (rvalue (k + 1) y0 y1)) ∧ (∀ y0 y1 y2 y3, LeO (rlist k y0 y1 y2 y3) (rlist (k + 1) y0 y1 y2 y3))
  | 0 => ⟨fun _ _ r h => by simp [rvalue] at h, fun _ _ _ _ r h => by simp [rlist] at h⟩
  | k + 1 => by
    obtain ⟨ih0, ih1⟩ := rvalue_mono_l k
    refine ⟨?_, ?_⟩
    · intro y0 y1
      unfold rvalue
      repeat' first
      | (with_reducible exact ih0 _ _)
      | (with_reducible exact ih1 _ _ _ _)
      | (with_reducible exact LeO.refl _)
      | (with_reducible exact LeO.none _)
      | (with_reducible refine LeO.ite ?_ ?_)
      | (with_reducible refine LeO.bind ?_ (fun _ => ?_))
    · intro y0 y1 y2 y3
      unfold rlist
      repeat' first
      | (with_reducible exact ih0 _ _)
      | (with_reducible exact ih1 _ _ _ _)
      | (with_reducible exact LeO.refl _)
      | (with_reducible exact LeO.none _)
      | (with_reducible refine LeO.ite ?_ ?_)
      | (with_reducible refine LeO.bind ?_ (fun _ => ?_))
theorem rvalue.mono : ∀ a0 a1 k, LeO (rvalue k a0 a1) (rvalue (k + 1) a0 a1) := fun a0 a1 k => (rvalue_mono_l k).1 a0 a1
def allBytes (l : List Int) : Bool := l.all (fun x => decide (0 ≤ x ∧ x < 256))
theorem allBytes_bytes {l : List Int} (h : allBytes l = true) : Bytes l := fun x hx => of_decide_eq_true (List.all_eq_true.1 h x hx)
def codec_Next.f (k : Nat) (l0 : List Int) : Option (Int × Int × ByteArray × List S29 × List Int × Int) :=
  if allBytes l0 = true then (rvalue k l0 64).bind fun t => (if t.2.1 = true then (if t.2.2.length ≤ 140737488355000 then some (t.1.f0, t.1.f1, t.1.f2, t.1.f3, t.2.2, 0) else none) else some (0, 0, ⟨#[]⟩, [], [], 4)) else none
theorem codec_Next.mono : ∀ a0 k, LeO (codec_Next.f k a0) (codec_Next.f (k + 1) a0) := by
  intro a0 k
  unfold codec_Next.f
  repeat' first
  | (with_reducible exact rvalue.mono _ _ _)
  | (with_reducible exact LeO.refl _)
  | (with_reducible exact LeO.none _)
  | (with_reducible refine LeO.ite ?_ ?_)
  | (with_reducible refine LeO.bind ?_ (fun _ => ?_))
theorem codec_Next.calls (k : Nat) (A0 : Option Addr) (c0 : Nat) (l0 : List Int) (r1 : Int) (r2 : Int) (r3 : ByteArray) (r4 : List (S29)) (r5 : List Int) (r6 : Int) (w : World) (hr0 : Kd.C (Kd.int .u8) w A0 l0.length l0) (hc0 : l0.length ≤ c0) (h : codec_Next.f k l0 = some (r1, r2, r3, r4, r5, r6)) :
    Calls Try.prog 26 #[.slice A0 l0.length c0] w fun e w' => ∃ v3_ v4_ : Value, e = .returned (.tuple #[.agg #[.int .i64 r1, .int .i64 r2, .string r3, v3_], v4_, .int .i64 r6]) ∧ Kd.R k29 29 w' w.heap.size (fun _ => True) v3_ r4 ∧ Kd.R (Kd.int .u8) 5 w' w.heap.size (fun _ => True) v4_ r5 ∧ Below w.heap.size w w' := by
  unfold codec_Next.f at h
  by_cases ha : allBytes l0 = true
  · rw [if_pos ha] at h
    have hb := allBytes_bytes ha
    obtain ⟨⟨x, ok, l1⟩, hv, h⟩ := Option.bind_eq_some_iff.1 h
    dsimp only at h
    cases ok with
    | false =>
      rw [if_neg (by decide)] at h
      simp only [Option.some.injEq, Prod.mk.injEq] at h
      obtain ⟨rfl, rfl, rfl, rfl, rfl, rfl⟩ := h
      exact (next_fail w A0 c0 l0 hr0 hc0 hb k x l1 hv).mono fun e w' ⟨h1, h2⟩ => ⟨_, _, h1, Kd.R_nil _ _ _ _ _, Kd.R_nil _ _ _ _ _, h2⟩
    | true =>
      rw [if_pos rfl] at h
      by_cases hl1 : l1.length ≤ 140737488355000
      · rw [if_pos hl1] at h
        simp only [Option.some.injEq, Prod.mk.injEq] at h
        obtain ⟨rfl, rfl, rfl, rfl, rfl, rfl⟩ := h
        exact (next_ok w A0 c0 l0 hr0 hc0 hb k x l1 hl1 hv).mono fun e w' ⟨v3, v4, h1, h2, h3, h4⟩ => ⟨v3, v4, h1, Kd.R_mono h2 (fun _ _ => trivial), h3, h4⟩
      · rw [if_neg hl1] at h
        cases h
  · rw [if_neg ha] at h
    cases h

/-! ### codec_Decode: function 22, by hand -/
theorem decode_end {w W : World} {v0 v1 v2 v3 : Value} {e : Int} {tm : Array Value} {R : Ending → World → Prop} (ht : tm[2]? = some (.pointer (some ⟨w.heap.size, 0, none⟩))) (ht5 : tm[3]? = some (.int .i64 e)) (hb : W.heap[w.heap.size]? = some (.cells #[v0, v1, v2, v3] 29 (0, 0)))
    (h : R (.returned (.tuple #[.agg #[v0, v1, v2, v3], .int .i64 e])) W) : bodyPost Try.prog Try.f22 R .ret { tmps := tm, defers := [] } W := by
  have g0 : W.cell? ⟨w.heap.size, 0, none⟩ = some v0 := (blk_cell hb 0).trans rfl
  have g1 : W.cell? ⟨w.heap.size, 1, none⟩ = some v1 := (blk_cell hb 1).trans rfl
  have g2 : W.cell? ⟨w.heap.size, 2, none⟩ = some v2 := (blk_cell hb 2).trans rfl
  have g3 : W.cell? ⟨w.heap.size, 3, none⟩ = some v3 := (blk_cell hb 3).trans rfl
  refine bodyPost_ret (v := .tuple #[.agg #[v0, v1, v2, v3], .int .i64 e]) ?hv rfl h
  case hv =>
    simp [results, Try.f22, go_sem, g0, g1, g2, g3, ht, ht5]
set_option maxHeartbeats 3200000 in
set_option maxRecDepth 100000 in
theorem decode_ok (w : World) (A0 : Option Addr) (c0 : Nat) (l0 : List Int) (hr0 : (Kd.int .u8).C w A0 l0.length l0) (hc0 : l0.length ≤ c0) (hb : Bytes l0) (hl : l0.length ≤ 1048576) (k : Nat) (x : S29) (hv : rvalue k l0 64 = some (x, true, [])) :
    Calls Try.prog 22 #[.slice A0 l0.length c0] w fun e w' => ∃ v3_ : Value, e = .returned (.tuple #[.agg #[.int .i64 x.f0, .int .i64 x.f1, .string x.f2, v3_], .int .i64 0]) ∧ Kd.R k29 29 w' w.heap.size (fun _ => True) v3_ x.f3 ∧ Below w.heap.size w w' := by
  have HR := Aside0.mk hr0
  have HC := Aside0.mk hc0
  have b0 : decide ((l0.length : Int) > 1048576) = false := decide_eq_false (by omega)
  have b1 : decide ((1048576 : Int) < (l0.length : Int)) = false := decide_eq_false (by omega)
  have b2 : ((1048576 : Int) < (l0.length : Int)) = False := eq_false (by omega)
  clear hr0 hc0 hl
  go_enter Try.func22, Try.ntmps22
  go_wp2_with (first | (go_at_call 26; (refine (next_ok _ A0 c0 l0 (Kd.C_below HR.out ((Below.refl _ w).alloc (Nat.le_refl _) _)) HC.out hb k x [] (by simp) hv).mono ?_); rintro e w2 ⟨v3, v4, rfl, hv3, hv4, p1⟩; obtain ⟨A4, c4, rfl⟩ := Kd.R_slice hv4; obtain ⟨A6, c6, rfl⟩ := Kd.R_slice hv3; (have P1 := Aside0.mk p1); (have RV := Aside0.mk hv3); clear hv4 hv3 p1; (have BZ := Aside0.mk (blk_below (blk_new w (.cells #[.int .i64 0, .int .i64 0, .string ⟨#[]⟩, .slice none 0 0] 29)) P1.out)); (have hlt_ := Aside0.mk (blk_lt BZ.out)); (have BY := Aside0.mk (blk_alloc BZ.out (.cells #[.int .i64 x.f0, .int .i64 x.f1, .string x.f2, .slice A6 x.f3.length c6] 29))); (have hz0 : (w2.alloc (.cells #[.int .i64 x.f0, .int .i64 x.f1, .string x.f2, .slice A6 x.f3.length c6] 29)).cell? ⟨w.heap.size, 0, none⟩ = some (.int .i64 0) := (blk_cell BY.out 0).trans rfl); (have hz1 : (w2.alloc (.cells #[.int .i64 x.f0, .int .i64 x.f1, .string x.f2, .slice A6 x.f3.length c6] 29)).cell? ⟨w.heap.size, 1, none⟩ = some (.int .i64 0) := (blk_cell BY.out 1).trans rfl); (have hz2 : (w2.alloc (.cells #[.int .i64 x.f0, .int .i64 x.f1, .string x.f2, .slice A6 x.f3.length c6] 29)).cell? ⟨w.heap.size, 2, none⟩ = some (.string ⟨#[]⟩) := (blk_cell BY.out 2).trans rfl); (have hz3 : (w2.alloc (.cells #[.int .i64 x.f0, .int .i64 x.f1, .string x.f2, .slice A6 x.f3.length c6] 29)).cell? ⟨w.heap.size, 3, none⟩ = some (.slice none 0 0) := (blk_cell BY.out 3).trans rfl); (have hf0 := blk_frozen BY.out 0); (have hf1 := blk_frozen BY.out 1); (have hf2 := blk_frozen BY.out 2); (have hf3 := blk_frozen BY.out 3)))
  refine decode_end (w := w) (e := 0) ?_ ?_ (st4_blk BY.out (.int .i64 x.f0) (.int .i64 x.f1) (.string x.f2) (.slice A6 x.f3.length c6)) ?_
  · rfl
  · rfl
  refine ⟨_, rfl, ?_, st4_below ((((Below.refl _ w).alloc (Nat.le_refl _) _).trans (P1.out.mono (by simp))).alloc (Nat.le_of_lt hlt_.out) _) (Nat.le_refl _) _ _ _ _⟩
  have h1 := Kd.R_bound (Kd.R_alloc RV.out (.cells #[.int .i64 x.f0, .int .i64 x.f1, .string x.f2, .slice A6 x.f3.length c6] 29))
  have h2 := Kd.R_kept h1 (st4_kept (Kept.refl _ (fun k => k = w.heap.size)) (.inl rfl) (.int .i64 x.f0) (.int .i64 x.f1) (.string x.f2) (.slice A6 x.f3.length c6)) (fun k hk e_ => by have h3 := hk.2.1; rw [World.size_alloc] at h3; omega)
  exact Kd.R_mono (Kd.R_lower h2 (by rw [World.size_alloc]; omega)) (fun _ _ => trivial)
set_option maxHeartbeats 3200000 in
set_option maxRecDepth 100000 in
theorem decode_fail (w : World) (A0 : Option Addr) (c0 : Nat) (l0 : List Int) (hr0 : (Kd.int .u8).C w A0 l0.length l0) (hc0 : l0.length ≤ c0) (hb : Bytes l0) (hl : l0.length ≤ 1048576) (k : Nat) (x : S29) (l1 : List Int) (hv : rvalue k l0 64 = some (x, false, l1)) :
    Calls Try.prog 22 #[.slice A0 l0.length c0] w fun e w' => e = .returned (.tuple #[.agg #[.int .i64 0, .int .i64 0, .string ⟨#[]⟩, .slice none 0 0], .int .i64 4]) ∧ Below w.heap.size w w' := by
  have HR := Aside0.mk hr0
  have HC := Aside0.mk hc0
  have b0 : decide ((l0.length : Int) > 1048576) = false := decide_eq_false (by omega)
  have b1 : decide ((1048576 : Int) < (l0.length : Int)) = false := decide_eq_false (by omega)
  have b2 : ((1048576 : Int) < (l0.length : Int)) = False := eq_false (by omega)
  clear hr0 hc0 hl
  go_enter Try.func22, Try.ntmps22
  go_wp2_with (first | (go_at_call 26; (refine (next_fail _ A0 c0 l0 (Kd.C_below HR.out ((Below.refl _ w).alloc (Nat.le_refl _) _)) HC.out hb k x l1 hv).mono ?_); rintro e w2 ⟨rfl, p1⟩; (have P1 := Aside0.mk p1); clear p1; (have BZ := Aside0.mk (blk_below (blk_new w (.cells #[.int .i64 0, .int .i64 0, .string ⟨#[]⟩, .slice none 0 0] 29)) P1.out)); (have hlt_ := Aside0.mk (blk_lt BZ.out)); (have BY := Aside0.mk (blk_alloc BZ.out (.cells #[.int .i64 0, .int .i64 0, .string ⟨#[]⟩, .slice none 0 0] 29))); (have hz0 : (w2.alloc (.cells #[.int .i64 0, .int .i64 0, .string ⟨#[]⟩, .slice none 0 0] 29)).cell? ⟨w.heap.size, 0, none⟩ = some (.int .i64 0) := (blk_cell BY.out 0).trans rfl); (have hz1 : (w2.alloc (.cells #[.int .i64 0, .int .i64 0, .string ⟨#[]⟩, .slice none 0 0] 29)).cell? ⟨w.heap.size, 1, none⟩ = some (.int .i64 0) := (blk_cell BY.out 1).trans rfl); (have hz2 : (w2.alloc (.cells #[.int .i64 0, .int .i64 0, .string ⟨#[]⟩, .slice none 0 0] 29)).cell? ⟨w.heap.size, 2, none⟩ = some (.string ⟨#[]⟩) := (blk_cell BY.out 2).trans rfl); (have hz3 : (w2.alloc (.cells #[.int .i64 0, .int .i64 0, .string ⟨#[]⟩, .slice none 0 0] 29)).cell? ⟨w.heap.size, 3, none⟩ = some (.slice none 0 0) := (blk_cell BY.out 3).trans rfl); (have hf0 := blk_frozen BY.out 0); (have hf1 := blk_frozen BY.out 1); (have hf2 := blk_frozen BY.out 2); (have hf3 := blk_frozen BY.out 3)))
  refine decode_end (w := w) (e := 4) ?_ ?_ (st4_blk BY.out (.int .i64 0) (.int .i64 0) (.string ⟨#[]⟩) (.slice none 0 0)) ?_
  · rfl
  · rfl
  exact ⟨rfl, st4_below ((((Below.refl _ w).alloc (Nat.le_refl _) _).trans (P1.out.mono (by simp))).alloc (Nat.le_of_lt hlt_.out) _) (Nat.le_refl _) _ _ _ _⟩
set_option maxHeartbeats 3200000 in
set_option maxRecDepth 100000 in
theorem decode_rest (w : World) (A0 : Option Addr) (c0 : Nat) (l0 : List Int) (hr0 : (Kd.int .u8).C w A0 l0.length l0) (hc0 : l0.length ≤ c0) (hb : Bytes l0) (hl : l0.length ≤ 1048576) (k : Nat) (x : S29) (l1 : List Int) (hlen : l1.length ≤ 140737488355000) (h1 : 0 < l1.length) (hv : rvalue k l0 64 = some (x, true, l1)) :
    Calls Try.prog 22 #[.slice A0 l0.length c0] w fun e w' => e = .returned (.tuple #[.agg #[.int .i64 0, .int .i64 0, .string ⟨#[]⟩, .slice none 0 0], .int .i64 4]) ∧ Below w.heap.size w w' := by
  have HR := Aside0.mk hr0
  have HC := Aside0.mk hc0
  have b0 : decide ((l0.length : Int) > 1048576) = false := decide_eq_false (by omega)
  have b1 : decide ((1048576 : Int) < (l0.length : Int)) = false := decide_eq_false (by omega)
  have b2 : ((1048576 : Int) < (l0.length : Int)) = False := eq_false (by omega)
  have t0 : decide ((l1.length : Int) > 0) = true := decide_eq_true (by omega)
  have t1 : decide ((0 : Int) < (l1.length : Int)) = true := decide_eq_true (by omega)
  have t2 : (0 < l1.length) = True := eq_true h1
  clear hr0 hc0 hl h1
  go_enter Try.func22, Try.ntmps22
  go_wp2_with (first | (go_at_call 26; (refine (next_ok _ A0 c0 l0 (Kd.C_below HR.out ((Below.refl _ w).alloc (Nat.le_refl _) _)) HC.out hb k x l1 hlen hv).mono ?_); rintro e w2 ⟨v3, v4, rfl, hv3, hv4, p1⟩; obtain ⟨A4, c4, rfl⟩ := Kd.R_slice hv4; obtain ⟨A6, c6, rfl⟩ := Kd.R_slice hv3; (have P1 := Aside0.mk p1); (have RV := Aside0.mk hv3); clear hv4 hv3 p1; (have BZ := Aside0.mk (blk_below (blk_new w (.cells #[.int .i64 0, .int .i64 0, .string ⟨#[]⟩, .slice none 0 0] 29)) P1.out)); (have hlt_ := Aside0.mk (blk_lt BZ.out)); (have BY := Aside0.mk (blk_alloc BZ.out (.cells #[.int .i64 x.f0, .int .i64 x.f1, .string x.f2, .slice A6 x.f3.length c6] 29))); (have hz0 : (w2.alloc (.cells #[.int .i64 x.f0, .int .i64 x.f1, .string x.f2, .slice A6 x.f3.length c6] 29)).cell? ⟨w.heap.size, 0, none⟩ = some (.int .i64 0) := (blk_cell BY.out 0).trans rfl); (have hz1 : (w2.alloc (.cells #[.int .i64 x.f0, .int .i64 x.f1, .string x.f2, .slice A6 x.f3.length c6] 29)).cell? ⟨w.heap.size, 1, none⟩ = some (.int .i64 0) := (blk_cell BY.out 1).trans rfl); (have hz2 : (w2.alloc (.cells #[.int .i64 x.f0, .int .i64 x.f1, .string x.f2, .slice A6 x.f3.length c6] 29)).cell? ⟨w.heap.size, 2, none⟩ = some (.string ⟨#[]⟩) := (blk_cell BY.out 2).trans rfl); (have hz3 : (w2.alloc (.cells #[.int .i64 x.f0, .int .i64 x.f1, .string x.f2, .slice A6 x.f3.length c6] 29)).cell? ⟨w.heap.size, 3, none⟩ = some (.slice none 0 0) := (blk_cell BY.out 3).trans rfl); (have hf0 := blk_frozen BY.out 0); (have hf1 := blk_frozen BY.out 1); (have hf2 := blk_frozen BY.out 2); (have hf3 := blk_frozen BY.out 3)))
  refine decode_end (w := w) (e := 4) ?_ ?_ (st4_blk BY.out (.int .i64 0) (.int .i64 0) (.string ⟨#[]⟩) (.slice none 0 0)) ?_
  · rfl
  · rfl
  exact ⟨rfl, st4_below ((((Below.refl _ w).alloc (Nat.le_refl _) _).trans (P1.out.mono (by simp))).alloc (Nat.le_of_lt hlt_.out) _) (Nat.le_refl _) _ _ _ _⟩
set_option maxHeartbeats 3200000 in
set_option maxRecDepth 100000 in
theorem decode_long (w : World) (A0 : Option Addr) (c0 : Nat) (l0 : List Int) (hl : l0.length > 1048576) :
    Calls Try.prog 22 #[.slice A0 l0.length c0] w fun e w' => e = .returned (.tuple #[.agg #[.int .i64 0, .int .i64 0, .string ⟨#[]⟩, .slice none 0 0], .int .i64 4]) ∧ Below w.heap.size w w' := by
  have b0 : decide ((l0.length : Int) > 1048576) = true := decide_eq_true (by omega)
  have b1 : decide ((1048576 : Int) < (l0.length : Int)) = true := decide_eq_true (by omega)
  have b2 : ((1048576 : Int) < (l0.length : Int)) = True := eq_true (by omega)
  have BY := Aside0.mk (blk_new w (.cells #[.int .i64 0, .int .i64 0, .string ⟨#[]⟩, .slice none 0 0] 29))
  have hz0 : (w.alloc (.cells #[.int .i64 0, .int .i64 0, .string ⟨#[]⟩, .slice none 0 0] 29)).cell? ⟨w.heap.size, 0, none⟩ = some (.int .i64 0) := (blk_cell BY.out 0).trans rfl
  clear hl
  go_enter Try.func22, Try.ntmps22
  go_wp2
  refine decode_end (w := w) (e := 4) ?_ ?_ BY.out ?_
  · rfl
  · rfl
  exact ⟨rfl, (Below.refl _ w).alloc (Nat.le_refl _) _⟩
def codec_Decode.f (k : Nat) (l0 : List Int) : Option (Int × Int × ByteArray × List S29 × Int) :=
  if allBytes l0 = true then (if l0.length > 1048576 then some (0, 0, ⟨#[]⟩, [], 4) else (rvalue k l0 64).bind fun t => (if t.2.1 = true then (if t.2.2 = [] then some (t.1.f0, t.1.f1, t.1.f2, t.1.f3, 0) else (if t.2.2.length ≤ 140737488355000 then some (0, 0, ⟨#[]⟩, [], 4) else none)) else some (0, 0, ⟨#[]⟩, [], 4))) else none
theorem codec_Decode.mono : ∀ a0 k, LeO (codec_Decode.f k a0) (codec_Decode.f (k + 1) a0) := by
  intro a0 k
  unfold codec_Decode.f
  repeat' first
  | (with_reducible exact rvalue.mono _ _ _)
  | (with_reducible exact LeO.refl _)
  | (with_reducible exact LeO.none _)
  | (with_reducible refine LeO.ite ?_ ?_)
  | (with_reducible refine LeO.bind ?_ (fun _ => ?_))
theorem codec_Decode.calls (k : Nat) (A0 : Option Addr) (c0 : Nat) (l0 : List Int) (r1 : Int) (r2 : Int) (r3 : ByteArray) (r4 : List (S29)) (r5 : Int) (w : World) (hr0 : Kd.C (Kd.int .u8) w A0 l0.length l0) (hc0 : l0.length ≤ c0) (h : codec_Decode.f k l0 = some (r1, r2, r3, r4, r5)) :
    Calls Try.prog 22 #[.slice A0 l0.length c0] w fun e w' => ∃ v3_ : Value, e = .returned (.tuple #[.agg #[.int .i64 r1, .int .i64 r2, .string r3, v3_], .int .i64 r5]) ∧ Kd.R k29 29 w' w.heap.size (fun _ => True) v3_ r4 ∧ Below w.heap.size w w' := by
  unfold codec_Decode.f at h
  by_cases ha : allBytes l0 = true
  · rw [if_pos ha] at h
    have hb := allBytes_bytes ha
    by_cases hl : l0.length > 1048576
    · rw [if_pos hl] at h
      simp only [Option.some.injEq, Prod.mk.injEq] at h
      obtain ⟨rfl, rfl, rfl, rfl, rfl⟩ := h
      exact (decode_long w A0 c0 l0 hl).mono fun e w' ⟨h1, h2⟩ => ⟨_, h1, Kd.R_nil _ _ _ _ _, h2⟩
    · rw [if_neg hl] at h
      obtain ⟨⟨x, ok, l1⟩, hv, h⟩ := Option.bind_eq_some_iff.1 h
      dsimp only at h
      cases ok with
      | false =>
        rw [if_neg (by decide)] at h
        simp only [Option.some.injEq, Prod.mk.injEq] at h
        obtain ⟨rfl, rfl, rfl, rfl, rfl⟩ := h
        exact (decode_fail w A0 c0 l0 hr0 hc0 hb (by omega) k x l1 hv).mono fun e w' ⟨h1, h2⟩ => ⟨_, h1, Kd.R_nil _ _ _ _ _, h2⟩
      | true =>
        rw [if_pos rfl] at h
        by_cases hn : l1 = []
        · rw [if_pos hn] at h
          subst hn
          simp only [Option.some.injEq, Prod.mk.injEq] at h
          obtain ⟨rfl, rfl, rfl, rfl, rfl⟩ := h
          exact decode_ok w A0 c0 l0 hr0 hc0 hb (by omega) k x hv
        · rw [if_neg hn] at h
          by_cases hl1 : l1.length ≤ 140737488355000
          · rw [if_pos hl1] at h
            simp only [Option.some.injEq, Prod.mk.injEq] at h
            obtain ⟨rfl, rfl, rfl, rfl, rfl⟩ := h
            exact (decode_rest w A0 c0 l0 hr0 hc0 hb (by omega) k x l1 hl1 (List.length_pos_iff.2 hn) hv).mono fun e w' ⟨h1, h2⟩ => ⟨_, h1, Kd.R_nil _ _ _ _ _, h2⟩
          · rw [if_neg hl1] at h
            cases h
  · rw [if_neg ha] at h
    cases h

end Go.Proofs.Ytploigkfnkgjiaa.PD
