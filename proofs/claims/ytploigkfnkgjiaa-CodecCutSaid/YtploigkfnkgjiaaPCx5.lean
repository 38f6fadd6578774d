-- Written by a program of this place (wip/gen.py) with the kit's print; not trusted: Lean checks it.
import Derived.Test.YtploigkfnkgjiaaPCx0
import Derived.Test.YtploigkfnkgjiaaPCx2
import Derived.Test.YtploigkfnkgjiaaPCx3
import Derived.Test.YtploigkfnkgjiaaPCx4
namespace Go.Proofs.Ytploigkfnkgjiaa.PC
open Go.RowKit Go.Proofs.YtploigkfnkgjiaaW.PrintWords Go.Proofs.YtploigkfnkgjiaaW.PrintLast Go.Proofs.YtploigkfnkgjiaaW.PrintMore
attribute [local go_sem] max2_int min2_int max_two min_two max_three min_three max_four min_four   -- for this text's walks alone
set_option linter.unusedVariables false
set_option linter.unusedSimpArgs false

/-! ### codec_Next: function 26, by hand -/
theorem st4_far {W : World} {b g t : Nat} {cs : Array Value} (h : W.heap[g]? = some (.cells cs t (0, 0))) (hne : g ≠ b) (v0 v1 v2 v3 : Value) : (st4 W b v0 v1 v2 v3).heap[g]? = some (.cells cs t (0, 0)) := blk_far (blk_far (blk_far (blk_far h (p := ⟨b, 0, none⟩) hne v0) (p := ⟨b, 1, none⟩) hne v1) (p := ⟨b, 2, none⟩) hne v2) (p := ⟨b, 3, none⟩) hne v3
theorem next_end {w W : World} {v0 v1 v2 v3 v4 : Value} {e : Int} {tm : Array Value} {R : Ending → World → Prop} (ht : tm[2]? = some (.pointer (some ⟨w.heap.size, 0, none⟩))) (ht5 : tm[3]? = some v4) (ht6 : tm[4]? = some (.int .i64 e)) (hb : W.heap[w.heap.size]? = some (.cells #[v0, v1, v2, v3] 29 (0, 0)))
    (h : R (.returned (.tuple #[.agg #[v0, v1, v2, v3], v4, .int .i64 e])) W) : bodyPost Try.prog Try.f26 R .ret { tmps := tm, defers := [] } W := by
  have g0 : W.cell? ⟨w.heap.size, 0, none⟩ = some v0 := (blk_cell hb 0).trans rfl
  have g1 : W.cell? ⟨w.heap.size, 1, none⟩ = some v1 := (blk_cell hb 1).trans rfl
  have g2 : W.cell? ⟨w.heap.size, 2, none⟩ = some v2 := (blk_cell hb 2).trans rfl
  have g3 : W.cell? ⟨w.heap.size, 3, none⟩ = some v3 := (blk_cell hb 3).trans rfl
  refine bodyPost_ret (v := .tuple #[.agg #[v0, v1, v2, v3], v4, .int .i64 e]) ?hv rfl h
  case hv =>
    simp [results, Try.f26, go_sem, g0, g1, g2, g3, ht, ht5, ht6]
set_option maxHeartbeats 3200000 in
set_option maxRecDepth 100000 in
theorem next_ok (w : World) (A : Option Addr) (c : Nat) (l : List Int) (hr : (Kd.int .u8).C w A l.length l) (hc : l.length ≤ c) (hb : Bytes l) (k : Nat) (x : S29) (l1 : List Int) (hlen : l1.length ≤ 140737488355000) (hv : rvalue k l 64 = some (x, true, l1)) :
    Calls Try.prog 26 #[.slice A l.length c] w fun e w' => ∃ v3 v4, e = .returned (.tuple #[.agg #[.int .i64 x.f0, .int .i64 x.f1, .string x.f2, v3], v4, .int .i64 0]) ∧ Kd.R k29 29 w' w.heap.size (fun k => some k ≠ v4.ownBlock) v3 x.f3 ∧ Kd.R (Kd.int .u8) 5 w' w.heap.size (fun _ => True) v4 l1 ∧ Below w.heap.size w w' := by
  have HR := Aside0.mk hr
  have HC := Aside0.mk hc
  have HLEN := Aside0.mk hlen
  clear hlen
  clear hr hc
  have W1 := Aside0.mk (show Below w.heap.size w ((w.alloc (.cells #[.int .i64 0, .int .i64 0, .string ⟨#[]⟩, .slice none 0 0] 29)).alloc (.cells #[.slice A l.length c] 64)) from ((Below.refl _ w).alloc (Nat.le_refl _) _).alloc (by simp) _)
  have S1 : Aside0 (RdS w ((w.alloc (.cells #[.int .i64 0, .int .i64 0, .string ⟨#[]⟩, .slice none 0 0] 29)).alloc (.cells #[.slice A l.length c] 64)) (w.heap.size + 1) l) := ⟨⟨A, c, by have h := blk_new (w.alloc (.cells #[.int .i64 0, .int .i64 0, .string ⟨#[]⟩, .slice none 0 0] 29)) (.cells #[.slice A l.length c] 64); rw [World.size_alloc] at h; exact h, HR.out, HC.out⟩⟩
  have B2 := Aside0.mk (blk_alloc (blk_new w (.cells #[.int .i64 0, .int .i64 0, .string ⟨#[]⟩, .slice none 0 0] 29)) (.cells #[.slice A l.length c] 64))
  go_enter Try.func26, Try.ntmps26
  go_wp2_with (first | (go_at_call 34; (refine (value_all k w _ (w.heap.size + 1) l 64 hb (by omega) W1.out S1.out x true l1 hv).mono ?_); rintro e w2 ⟨v, rfl, hv3, p1, _, p2, p3⟩; obtain ⟨A6, c6, rfl⟩ := Kd.R_slice hv3; (have RV := Aside0.mk hv3); clear hv3; (have P1 := Aside0.mk p1); (have P2 := Aside0.mk p2); (have P3 := Aside0.mk p3)))
  obtain ⟨A2, c2, hbg, hCg, hcg⟩ := P1.out
  have B6 := Aside0.mk (blk_new w2 (.cells #[.int .i64 x.f0, .int .i64 x.f1, .string x.f2, .slice A6 x.f3.length c6] 29))
  have BG := Aside0.mk (blk_alloc hbg (.cells #[.int .i64 x.f0, .int .i64 x.f1, .string x.f2, .slice A6 x.f3.length c6] 29))
  have BZ := Aside0.mk (blk_alloc (blk_kept B2.out P3.out (fun e_ => by omega)) (.cells #[.int .i64 x.f0, .int .i64 x.f1, .string x.f2, .slice A6 x.f3.length c6] 29))
  have HB3 := Aside0.mk (P2.out.alloc P2.out.size (.cells #[.int .i64 x.f0, .int .i64 x.f1, .string x.f2, .slice A6 x.f3.length c6] 29))
  have N6 := Aside0.mk (show w.heap.size ≠ w2.heap.size from by have := blk_lt hbg; omega)
  have HCG := Aside0.mk hCg
  obtain ⟨sz, hsz⟩ : ∃ sz, (w2.alloc (.cells #[.int .i64 x.f0, .int .i64 x.f1, .string x.f2, .slice A6 x.f3.length c6] 29)).heap.size = sz := ⟨_, rfl⟩
  have RV1 := Aside0.mk (Kd.R_mono (ok' := fun k => w.heap.size + 2 ≤ k ∧ k < sz) (Kd.R_bound (Kd.R_alloc RV.out (.cells #[.int .i64 x.f0, .int .i64 x.f1, .string x.f2, .slice A6 x.f3.length c6] 29))) (fun k hk => ⟨by have := hk.1; simp only [World.size_alloc] at this; omega, by rw [← hsz]; exact hk.2.2.1⟩))
  have SZ := Aside0.mk (show sz ≤ (w2.alloc (.cells #[.int .i64 x.f0, .int .i64 x.f1, .string x.f2, .slice A6 x.f3.length c6] 29)).heap.size from Nat.le_of_eq hsz.symm)
  clear hsz RV
  clear hbg hcg hCg
  generalize hb6 : w2.heap.size = b6 at B6 N6 ⊢
  generalize w2.alloc (.cells #[.int .i64 x.f0, .int .i64 x.f1, .string x.f2, .slice A6 x.f3.length c6] 29) = W3 at B6 BG BZ HB3 RV1 SZ ⊢
  clear hb6
  have n0_ := Aside0.mk (blk_drew B6.out)
  have n1_ := Aside0.mk (blk_drew BG.out)
  have n2_ := Aside0.mk (blk_drew BZ.out)
  have n3_ := Aside0.mk (below_drew1 HB3.out)
  have n5_ := Aside0.mk (Kd.R_drew RV1.out)
  have n6_ := Aside0.mk (show sz ≤ W3.drew.heap.size from SZ.out)
  clear B6 BG BZ HB3 RV1 SZ
  have RV1 := n5_
  have SZ := n6_
  clear n5_ n6_
  have B6 := n0_
  have BG := n1_
  have BZ := n2_
  have HB3 := n3_
  clear n0_ n1_ n2_ n3_
  refine start_ (n := 10) (S := fun w' => w'.cell? ⟨w.heap.size + 1, 0, none⟩ = some (.slice A2 l1.length c2) ∧ w'.cell? ⟨b6, 0, none⟩ = some (.int .i64 x.f0) ∧ w'.cell? ⟨b6, 1, none⟩ = some (.int .i64 x.f1) ∧ w'.cell? ⟨b6, 2, none⟩ = some (.string x.f2) ∧ w'.cell? ⟨b6, 3, none⟩ = some (.slice A6 x.f3.length c6)) (ds := []) #[false, false, false, false, false, false, false, false, false, false] (by kernel_rfl) rfl rfl ⟨(blk_cell BG.out 0).trans rfl, (blk_cell B6.out 0).trans rfl, (blk_cell B6.out 1).trans rfl, (blk_cell B6.out 2).trans rfl, (blk_cell B6.out 3).trans rfl⟩ (fun hHeld => ?_)
  generalize W3.drew = W4 at B6 BG BZ HB3 RV1 SZ hHeld ⊢
  refine pure_ (i := 2) (N := some 21) (v := ?_) (a' := ?_) #[false, false, true, false, false, false, false, false, false, false] rfl rfl (by kernel_rfl) (fun _ _ _ h => h) (Or.inl ⟨by rfl, ?_⟩) ?_ ?_
  rotate_left
  · intro w'
    go_simp
    with_reducible rfl
  rotate_left
  · simp only [Act.put, List.setIfInBounds_toArray, List.set_cons_zero, List.set_cons_succ, i64_w, i32_w]
    rfl
  refine pure_ (i := 3) (N := some 22) (v := ?_) (a' := ?_) #[false, false, true, true, false, false, false, false, false, false] rfl rfl (by kernel_rfl) (fun _ _ _ h => h) (Or.inl ⟨by rfl, ?_⟩) ?_ ?_
  rotate_left
  · intro w'
    go_simp
    with_reducible rfl
  rotate_left
  · simp only [Act.put, List.setIfInBounds_toArray, List.set_cons_zero, List.set_cons_succ, i64_w, i32_w]
    rfl
  refine pure_ (i := 4) (N := some 23) (v := ?_) (a' := ?_) #[false, false, true, true, true, false, false, false, false, false] rfl rfl (by kernel_rfl) (fun _ _ _ h => h) (Or.inl ⟨by rfl, ?_⟩) ?_ ?_
  rotate_left
  · intro w'
    go_simp
    with_reducible rfl
  rotate_left
  · simp only [Act.put, List.setIfInBounds_toArray, List.set_cons_zero, List.set_cons_succ, i64_w, i32_w]
    rfl
  refine take_ (i := 0) (N := some 19) (v := ?_) (a' := ?_) #[true, false, true, true, true, false, false, false, false, false] rfl rfl (by kernel_rfl) (fun _ _ _ h => h) (Or.inl ⟨by rfl, ?_⟩) hHeld ?_ ?_
  rotate_left
  · rintro w' ⟨s0, s1, s2, s3, s4⟩
    go_simp
    with_reducible rfl
  rotate_left
  · simp only [Act.put, List.setIfInBounds_toArray, List.set_cons_zero, List.set_cons_succ, i64_w, i32_w]
    rfl
  refine take_ (i := 5) (N := some 24) (v := ?_) (a' := ?_) #[true, false, true, true, true, true, false, false, false, false] rfl rfl (by kernel_rfl) (fun _ _ _ h => h) (Or.inl ⟨by rfl, ?_⟩) hHeld ?_ ?_
  rotate_left
  · rintro w' ⟨s0, s1, s2, s3, s4⟩
    go_simp
    with_reducible rfl
  rotate_left
  · simp only [Act.put, List.setIfInBounds_toArray, List.set_cons_zero, List.set_cons_succ, i64_w, i32_w]
    rfl
  refine one_ (i := 1) (N := some 20) #[true, true, true, true, true, true, false, false, false, false] rfl rfl (by kernel_rfl) (by decide) (fun K hK => ?_)
  refine Kd.R_lit_step (Kd.int .u8) (w0 := w) w.heap.size 5 (by rfl) (N := 20) rfl (xs := ([] : List Int)) (inner := []) (ok := fun k => k ≠ w.heap.size ∧ k ≠ w.heap.size + 1 ∧ k ≠ b6) (okp := fun k => k ≠ w.heap.size ∧ k ≠ w.heap.size + 1 ∧ k ≠ b6) ?hr ?hp (fun _ hk => hk) ?hf HB3.out HB3.out.size (by simp) ?_
  (case hr => first | (go_simp; done) | (go_simp; rfl))
  (case hp => exact (Reps.none _ _))
  (case hf => have h1 := blk_lt B6.out; have h2 := blk_lt BG.out; have h3 := blk_lt BZ.out; exact ⟨by omega, by omega, by omega⟩)
  intro v20 W5 ho hb hgr hown20
  have n5_ := Aside0.mk (Kd.R_grown RV1.out hgr (by simp))
  have OW20 := Aside0.mk hown20
  have n6_ := Aside0.mk (Nat.le_trans SZ.out hgr.size)
  have OWS : Aside0 (∀ k, v20.ownBlock = some k → sz ≤ k) := ⟨fun k e_ => by obtain ⟨b, h1, h2⟩ := hown20; rw [h1] at e_; injection e_ with e_; have := SZ.out; omega⟩
  clear RV1 SZ hown20
  have RV1 := n5_
  have SZ := n6_
  clear n5_ n6_
  have n0_ := Aside0.mk (blk_grown B6.out hgr (by simp))
  have n1_ := Aside0.mk (blk_grown BG.out hgr (by simp))
  have n2_ := Aside0.mk (blk_grown BZ.out hgr (by simp))
  have n3_ := Aside0.mk hb
  have HO := Aside0.mk ho
  clear B6 BG BZ HB3 ho hb hgr
  have B6 := n0_
  have BG := n1_
  have BZ := n2_
  have HB3 := n3_
  clear n0_ n1_ n2_ n3_
  refine hK.out _ _ ⟨(blk_cell BG.out 0).trans rfl, (blk_cell B6.out 0).trans rfl, (blk_cell B6.out 1).trans rfl, (blk_cell B6.out 2).trans rfl, (blk_cell B6.out 3).trans rfl⟩ (fun hHeld => ?_)
  clear hK K
  refine norm_ (a' := ?_) ?_ ?_
  rotate_left
  · show Act.put _ (some 20) _ = _
    simp only [Act.put, List.setIfInBounds_toArray, List.set_cons_zero, List.set_cons_succ, i64_w, i32_w]
    rfl
  refine one_ (i := 6) (N := some 25) #[true, true, true, true, true, true, true, false, false, false] rfl rfl (by kernel_rfl) (by decide) (fun K hK => ?_)
  refine Kd.R_append_rows_step (Kd.int .u8) (w0 := w) w.heap.size (by rfl) (.tmp 20) (.tmp 24) 31 5 (.int .u8 0) 1 rfl Try.underlying31 info5 rfl (by decide) (by omega) v20 [] l1 A2 l1.length c2 (fun k => k ≠ w.heap.size ∧ k ≠ w.heap.size + 1 ∧ k ≠ b6) (fun _ => False) rfl rfl HO.out ?aR (fun _ _ h => h) (fun _ h => h.elim) ?aF HB3.out HB3.out.size ?aL ?_
  (case aR => exact Kd.C_below HCG.out HB3.out)
  (case aF => intro k hk; have h1 := blk_lt B6.out; have h2 := blk_lt BG.out; have h3 := blk_lt BZ.out; exact ⟨by omega, by omega, by omega⟩)
  (case aL => have := HLEN.out; simp only [List.length_nil]; omega)
  intro v25 W6 ho hb hgr hat
  have n5_ := Aside0.mk (Kd.R_grown RV1.out hgr (fun k hk e_ => by have := OWS.out k e_.symm; omega))
  have OW25 : Aside0 (∀ k, v25.ownBlock = some k → sz ≤ k) := ⟨fun k e_ => hat.elim (fun h => OWS.out k (h ▸ e_)) (fun ⟨b, h1, h2⟩ => by rw [h1] at e_; injection e_ with e_; have := SZ.out; omega)⟩
  clear RV1 SZ
  have RV1 := n5_
  clear n5_
  have n0_ := Aside0.mk (blk_grown B6.out hgr (Kd.R_away HO.out (fun _ hk => hk.2.2)))
  have n1_ := Aside0.mk (blk_grown BG.out hgr (Kd.R_away HO.out (fun _ hk => hk.2.1)))
  have n2_ := Aside0.mk (blk_grown BZ.out hgr (Kd.R_away HO.out (fun _ hk => hk.1)))
  have n3_ := Aside0.mk hb
  rw [List.nil_append] at ho
  have n4_ := Aside0.mk ho
  clear B6 BG BZ HB3 HO ho hb hgr hat
  have B6 := n0_
  have BG := n1_
  have BZ := n2_
  have HB3 := n3_
  have HO := n4_
  clear n0_ n1_ n2_ n3_ n4_
  refine hK.out _ _ ⟨(blk_cell BG.out 0).trans rfl, (blk_cell B6.out 0).trans rfl, (blk_cell B6.out 1).trans rfl, (blk_cell B6.out 2).trans rfl, (blk_cell B6.out 3).trans rfl⟩ (fun hHeld => ?_)
  clear hK K
  refine norm_ (a' := ?_) ?_ ?_
  rotate_left
  · show Act.put _ (some 25) _ = _
    simp only [Act.put, List.setIfInBounds_toArray, List.set_cons_zero, List.set_cons_succ, i64_w, i32_w]
    rfl
  refine one_ (i := 7) (N := none) #[true, true, true, true, true, true, true, true, false, false] rfl rfl (by kernel_rfl) (by decide) (fun K hK => ?_)
  have hz0 : W6.cell? ⟨w.heap.size, 0, none⟩ = some (.int .i64 0) := (blk_cell BZ.out 0).trans rfl
  have hz1 : W6.cell? ⟨w.heap.size, 1, none⟩ = some (.int .i64 0) := (blk_cell BZ.out 1).trans rfl
  have hz2 : W6.cell? ⟨w.heap.size, 2, none⟩ = some (.string ⟨#[]⟩) := (blk_cell BZ.out 2).trans rfl
  have hz3 : W6.cell? ⟨w.heap.size, 3, none⟩ = some (.slice none 0 0) := (blk_cell BZ.out 3).trans rfl
  have hf0 := blk_frozen BZ.out 0
  have hf1 := blk_frozen BZ.out 1
  have hf2 := blk_frozen BZ.out 2
  have hf3 := blk_frozen BZ.out 3
  refine skip_ (w1 := st4 W6 w.heap.size (.int .i64 x.f0) (.int .i64 x.f1) (.string x.f2) (.slice A6 x.f3.length c6)) (by rfl) rfl ?_ ?_
  · unfold st4
    go_simp
  have n0_ := Aside0.mk (st4_far B6.out N6.out.symm (.int .i64 x.f0) (.int .i64 x.f1) (.string x.f2) (.slice A6 x.f3.length c6))
  have n1_ := Aside0.mk (st4_far BG.out (show w.heap.size + 1 ≠ w.heap.size by omega) (.int .i64 x.f0) (.int .i64 x.f1) (.string x.f2) (.slice A6 x.f3.length c6))
  have n2_ := Aside0.mk (st4_blk BZ.out (.int .i64 x.f0) (.int .i64 x.f1) (.string x.f2) (.slice A6 x.f3.length c6))
  have n3_ := Aside0.mk (st4_below HB3.out (Nat.le_refl _) (.int .i64 x.f0) (.int .i64 x.f1) (.string x.f2) (.slice A6 x.f3.length c6))
  have n4_ := Aside0.mk (Kd.R_kept HO.out (st4_kept (Kept.refl W6 (fun k => k = w.heap.size)) (.inl rfl) (.int .i64 x.f0) (.int .i64 x.f1) (.string x.f2) (.slice A6 x.f3.length c6)) (fun k hk e_ => hk.1 e_))
  have n5_ := Aside0.mk (Kd.R_kept RV1.out (st4_kept (Kept.refl W6 (fun k => k = w.heap.size)) (.inl rfl) (.int .i64 x.f0) (.int .i64 x.f1) (.string x.f2) (.slice A6 x.f3.length c6)) (fun k hk e_ => by omega))
  clear hz0 hz1 hz2 hz3 hf0 hf1 hf2 hf3 B6 BG BZ HB3 HO RV1
  have RV1 := n5_
  clear n5_
  have B6 := n0_
  have BG := n1_
  have BZ := n2_
  have HB3 := n3_
  have HO := n4_
  clear n0_ n1_ n2_ n3_ n4_
  refine hK.out _ _ ⟨(blk_cell BG.out 0).trans rfl, (blk_cell B6.out 0).trans rfl, (blk_cell B6.out 1).trans rfl, (blk_cell B6.out 2).trans rfl, (blk_cell B6.out 3).trans rfl⟩ (fun hHeld => ?_)
  clear hK K
  generalize st4 W6 w.heap.size (.int .i64 x.f0) (.int .i64 x.f1) (.string x.f2) (.slice A6 x.f3.length c6) = W7 at B6 BG BZ HB3 HO RV1 hHeld ⊢
  refine pure_ (i := 8) (N := some 3) (v := ?_) (a' := ?_) #[true, true, true, true, true, true, true, true, true, false] rfl rfl (by kernel_rfl) (fun _ _ _ h => h) (Or.inl ⟨by rfl, ?_⟩) ?_ ?_
  rotate_left
  · intro w'
    go_simp
    with_reducible rfl
  rotate_left
  · simp only [Act.put, List.setIfInBounds_toArray, List.set_cons_zero, List.set_cons_succ, i64_w, i32_w]
    rfl
  refine pure_ (i := 9) (N := some 4) (v := ?_) (a' := ?_) #[true, true, true, true, true, true, true, true, true, true] rfl rfl (by kernel_rfl) (fun _ _ _ h => h) (Or.inl ⟨by rfl, ?_⟩) ?_ ?_
  rotate_left
  · intro w'
    go_simp
    with_reducible rfl
  rotate_left
  · simp only [Act.put, List.setIfInBounds_toArray, List.set_cons_zero, List.set_cons_succ, i64_w, i32_w]
    rfl
  refine done_ (by kernel_rfl) ?_
  try go_wp2
  refine next_end (w := w) (v4 := v25) (e := 0) ?_ ?_ ?_ BZ.out ?_
  · rfl
  · rfl
  · rfl
  exact ⟨_, v25, rfl, Kd.R_mono RV1.out (fun k hk e_ => by have := OW25.out k e_.symm; omega), Kd.R_mono HO.out (fun _ _ => trivial), HB3.out⟩
set_option maxHeartbeats 3200000 in
set_option maxRecDepth 100000 in
theorem next_fail (w : World) (A : Option Addr) (c : Nat) (l : List Int) (hr : (Kd.int .u8).C w A l.length l) (hc : l.length ≤ c) (hb : Bytes l) (k : Nat) (x : S29) (l1 : List Int) (hv : rvalue k l 64 = some (x, false, l1)) :
    Calls Try.prog 26 #[.slice A l.length c] w fun e w' => e = .returned (.tuple #[.agg #[.int .i64 0, .int .i64 0, .string ⟨#[]⟩, .slice none 0 0], .slice none 0 0, .int .i64 4]) ∧ Below w.heap.size w w' := by
  have HR := Aside0.mk hr
  have HC := Aside0.mk hc
  clear hr hc
  have W1 := Aside0.mk (show Below w.heap.size w ((w.alloc (.cells #[.int .i64 0, .int .i64 0, .string ⟨#[]⟩, .slice none 0 0] 29)).alloc (.cells #[.slice A l.length c] 64)) from ((Below.refl _ w).alloc (Nat.le_refl _) _).alloc (by simp) _)
  have S1 : Aside0 (RdS w ((w.alloc (.cells #[.int .i64 0, .int .i64 0, .string ⟨#[]⟩, .slice none 0 0] 29)).alloc (.cells #[.slice A l.length c] 64)) (w.heap.size + 1) l) := ⟨⟨A, c, by have h := blk_new (w.alloc (.cells #[.int .i64 0, .int .i64 0, .string ⟨#[]⟩, .slice none 0 0] 29)) (.cells #[.slice A l.length c] 64); rw [World.size_alloc] at h; exact h, HR.out, HC.out⟩⟩
  have B2 := Aside0.mk (blk_alloc (blk_new w (.cells #[.int .i64 0, .int .i64 0, .string ⟨#[]⟩, .slice none 0 0] 29)) (.cells #[.slice A l.length c] 64))
  go_enter Try.func26, Try.ntmps26
  go_wp2_with (first | (go_at_call 34; (refine (value_all k w _ (w.heap.size + 1) l 64 hb (by omega) W1.out S1.out x false l1 hv).mono ?_); rintro e w2 ⟨v, rfl, hv3, p1, _, p2, p3⟩; obtain ⟨A6, c6, rfl⟩ := Kd.R_slice hv3; clear hv3; (have P2 := Aside0.mk p2); (have BY := Aside0.mk (blk_alloc (blk_kept B2.out p3 (fun e_ => by omega)) (.cells #[.int .i64 x.f0, .int .i64 x.f1, .string x.f2, .slice A6 x.f3.length c6] 29))); clear p1 p2 p3; (have hy0 : (w2.alloc (.cells #[.int .i64 x.f0, .int .i64 x.f1, .string x.f2, .slice A6 x.f3.length c6] 29)).cell? ⟨w.heap.size, 0, none⟩ = some (.int .i64 0) := (blk_cell BY.out 0).trans rfl); (have hy1 : (w2.alloc (.cells #[.int .i64 x.f0, .int .i64 x.f1, .string x.f2, .slice A6 x.f3.length c6] 29)).cell? ⟨w.heap.size, 1, none⟩ = some (.int .i64 0) := (blk_cell BY.out 1).trans rfl); (have hy2 : (w2.alloc (.cells #[.int .i64 x.f0, .int .i64 x.f1, .string x.f2, .slice A6 x.f3.length c6] 29)).cell? ⟨w.heap.size, 2, none⟩ = some (.string ⟨#[]⟩) := (blk_cell BY.out 2).trans rfl); (have hy3 : (w2.alloc (.cells #[.int .i64 x.f0, .int .i64 x.f1, .string x.f2, .slice A6 x.f3.length c6] 29)).cell? ⟨w.heap.size, 3, none⟩ = some (.slice none 0 0) := (blk_cell BY.out 3).trans rfl); (have hyf0 := blk_frozen BY.out 0); (have hyf1 := blk_frozen BY.out 1); (have hyf2 := blk_frozen BY.out 2); (have hyf3 := blk_frozen BY.out 3)))
  refine next_end (w := w) (v4 := .slice none 0 0) (e := 4) ?_ ?_ ?_ (st4_blk BY.out (.int .i64 0) (.int .i64 0) (.string ⟨#[]⟩) (.slice none 0 0)) ?_
  · rfl
  · rfl
  · rfl
  exact ⟨rfl, st4_below (P2.out.alloc P2.out.size _) (Nat.le_refl _) _ _ _ _⟩
theorem rvalue_mono_l : ∀ k, (∀ y0 y1, LeO (rvalue k y0 y1) (rvalue (k + 1) y0 y1)) ∧ (∀ y0 y1 y2 y3, LeO (rlist k y0 y1 y2 y3) (rlist (k + 1) y0 y1 y2 y3))
  | 0 => ⟨fun _ _ r h => by simp [rvalue] at h, fun _ _ _ _ r h => by simp [rlist] at h⟩
  | k + 1 => by
    obtain ⟨ih0, ih1⟩ := rvalue_mono_l k
    refine ⟨?_, ?_⟩
    · intro y0 y1
      unfold rvalue
      repeat' first
      | (with_reducible exact ih0 _ _)
      | (with_reducible exact ih1 _ _ _ _)
      | (with_reducible exact LeO.refl _)
      | (with_reducible exact LeO.none _)
      | (with_reducible refine LeO.ite ?_ ?_)
      | (with_reducible refine LeO.bind ?_ (fun _ => ?_))
    · intro y0 y1 y2 y3
      unfold rlist
      repeat' first
      | (with_reducible exact ih0 _ _)
      | (with_reducible exact ih1 _ _ _ _)
      | (with_reducible exact LeO.refl _)
      | (with_reducible exact LeO.none _)
      | (with_reducible refine LeO.ite ?_ ?_)
      | (with_reducible refine LeO.bind ?_ (fun _ => ?_))
theorem rvalue.mono : ∀ a0 a1 k, LeO (rvalue k a0 a1) (rvalue (k + 1) a0 a1) := fun a0 a1 k => (rvalue_mono_l k).1 a0 a1
def allBytes (l : List Int) : Bool := l.all (fun x => decide (0 ≤ x ∧ x < 256))
theorem allBytes_bytes {l : List Int} (h : allBytes l = true) : Bytes l := fun x hx => of_decide_eq_true (List.all_eq_true.1 h x hx)
def codec_Next.f (k : Nat) (l0 : List Int) : Option (Int × Int × ByteArray × List S29 × List Int × Int) :=
  if allBytes l0 = true then (rvalue k l0 64).bind fun t => (if t.2.1 = true then (if t.2.2.length ≤ 140737488355000 then some (t.1.f0, t.1.f1, t.1.f2, t.1.f3, t.2.2, 0) else none) else some (0, 0, ⟨#[]⟩, [], [], 4)) else none
theorem codec_Next.mono : ∀ a0 k, LeO (codec_Next.f k a0) (codec_Next.f (k + 1) a0) := by
  intro a0 k
  unfold codec_Next.f
  repeat' first
  | (with_reducible exact rvalue.mono _ _ _)
  | (with_reducible exact LeO.refl _)
  | (with_reducible exact LeO.none _)
  | (with_reducible refine LeO.ite ?_ ?_)
  | (with_reducible refine LeO.bind ?_ (fun _ => ?_))
theorem codec_Next.calls (k : Nat) (A0 : Option Addr) (c0 : Nat) (l0 : List Int) (r1 : Int) (r2 : Int) (r3 : ByteArray) (r4 : List (S29)) (r5 : List Int) (r6 : Int) (w : World) (hr0 : Kd.C (Kd.int .u8) w A0 l0.length l0) (hc0 : l0.length ≤ c0) (h : codec_Next.f k l0 = some (r1, r2, r3, r4, r5, r6)) :
    Calls Try.prog 26 #[.slice A0 l0.length c0] w fun e w' => ∃ v3_ v4_ : Value, e = .returned (.tuple #[.agg #[.int .i64 r1, .int .i64 r2, .string r3, v3_], v4_, .int .i64 r6]) ∧ Kd.R k29 29 w' w.heap.size (fun _ => True) v3_ r4 ∧ Kd.R (Kd.int .u8) 5 w' w.heap.size (fun _ => True) v4_ r5 ∧ Below w.heap.size w w' := by
  unfold codec_Next.f at h
  by_cases ha : allBytes l0 = true
  · rw [if_pos ha] at h
    have hb := allBytes_bytes ha
    obtain ⟨⟨x, ok, l1⟩, hv, h⟩ := Option.bind_eq_some_iff.1 h
    dsimp only at h
    cases ok with
    | false =>
      rw [if_neg (by decide)] at h
      simp only [Option.some.injEq, Prod.mk.injEq] at h
      obtain ⟨rfl, rfl, rfl, rfl, rfl, rfl⟩ := h
      exact (next_fail w A0 c0 l0 hr0 hc0 hb k x l1 hv).mono fun e w' ⟨h1, h2⟩ => ⟨_, _, h1, Kd.R_nil _ _ _ _ _, Kd.R_nil _ _ _ _ _, h2⟩
    | true =>
      rw [if_pos rfl] at h
      by_cases hl1 : l1.length ≤ 140737488355000
      · rw [if_pos hl1] at h
        simp only [Option.some.injEq, Prod.mk.injEq] at h
        obtain ⟨rfl, rfl, rfl, rfl, rfl, rfl⟩ := h
        exact (next_ok w A0 c0 l0 hr0 hc0 hb k x l1 hl1 hv).mono fun e w' ⟨v3, v4, h1, h2, h3, h4⟩ => ⟨v3, v4, h1, Kd.R_mono h2 (fun _ _ => trivial), h3, h4⟩
      · rw [if_neg hl1] at h
        cases h
  · rw [if_neg ha] at h
    cases h

/-! ### codec_Decode: function 22, by hand -/
theorem decode_end {w W : World} {v0 v1 v2 v3 : Value} {e : Int} {tm : Array Value} {R : Ending → World → Prop} (ht : tm[2]? = some (.pointer (some ⟨w.heap.size, 0, none⟩))) (ht5 : tm[3]? = some (.int .i64 e)) (hb : W.heap[w.heap.size]? = some (.cells #[v0, v1, v2, v3] 29 (0, 0)))
    (h : R (.returned (.tuple #[.agg #[v0, v1, v2, v3], .int .i64 e])) W) : bodyPost Try.prog Try.f22 R .ret { tmps := tm, defers := [] } W := by
  have g0 : W.cell? ⟨w.heap.size, 0, none⟩ = some v0 := (blk_cell hb 0).trans rfl
  have g1 : W.cell? ⟨w.heap.size, 1, none⟩ = some v1 := (blk_cell hb 1).trans rfl
  have g2 : W.cell? ⟨w.heap.size, 2, none⟩ = some v2 := (blk_cell hb 2).trans rfl
  have g3 : W.cell? ⟨w.heap.size, 3, none⟩ = some v3 := (blk_cell hb 3).trans rfl
  refine bodyPost_ret (v := .tuple #[.agg #[v0, v1, v2, v3], .int .i64 e]) ?hv rfl h
  case hv =>
    simp [results, Try.f22, go_sem, g0, g1, g2, g3, ht, ht5]
set_option maxHeartbeats 3200000 in
set_option maxRecDepth 100000 in
theorem decode_ok (w : World) (A0 : Option Addr) (c0 : Nat) (l0 : List Int) (hr0 : (Kd.int .u8).C w A0 l0.length l0) (hc0 : l0.length ≤ c0) (hb : Bytes l0) (hl : l0.length ≤ 1048576) (k : Nat) (x : S29) (hv : rvalue k l0 64 = some (x, true, [])) :
    Calls Try.prog 22 #[.slice A0 l0.length c0] w fun e w' => ∃ v3_ : Value, e = .returned (.tuple #[.agg #[.int .i64 x.f0, .int .i64 x.f1, .string x.f2, v3_], .int .i64 0]) ∧ Kd.R k29 29 w' w.heap.size (fun _ => True) v3_ x.f3 ∧ Below w.heap.size w w' := by
  have HR := Aside0.mk hr0
  have HC := Aside0.mk hc0
  have b0 : decide ((l0.length : Int) > 1048576) = false := decide_eq_false (by omega)
  have b1 : decide ((1048576 : Int) < (l0.length : Int)) = false := decide_eq_false (by omega)
  have b2 : ((1048576 : Int) < (l0.length : Int)) = False := eq_false (by omega)
  clear hr0 hc0 hl
  go_enter Try.func22, Try.ntmps22
  go_wp2_with (first | (go_at_call 26; (refine (next_ok _ A0 c0 l0 (Kd.C_below HR.out ((Below.refl _ w).alloc (Nat.le_refl _) _)) HC.out hb k x [] (by simp) hv).mono ?_); rintro e w2 ⟨v3, v4, rfl, hv3, hv4, p1⟩; obtain ⟨A4, c4, rfl⟩ := Kd.R_slice hv4; obtain ⟨A6, c6, rfl⟩ := Kd.R_slice hv3; (have P1 := Aside0.mk p1); (have RV := Aside0.mk hv3); clear hv4 hv3 p1; (have BZ := Aside0.mk (blk_below (blk_new w (.cells #[.int .i64 0, .int .i64 0, .string ⟨#[]⟩, .slice none 0 0] 29)) P1.out)); (have hlt_ := Aside0.mk (blk_lt BZ.out)); (have BY := Aside0.mk (blk_alloc BZ.out (.cells #[.int .i64 x.f0, .int .i64 x.f1, .string x.f2, .slice A6 x.f3.length c6] 29))); (have hz0 : (w2.alloc (.cells #[.int .i64 x.f0, .int .i64 x.f1, .string x.f2, .slice A6 x.f3.length c6] 29)).cell? ⟨w.heap.size, 0, none⟩ = some (.int .i64 0) := (blk_cell BY.out 0).trans rfl); (have hz1 : (w2.alloc (.cells #[.int .i64 x.f0, .int .i64 x.f1, .string x.f2, .slice A6 x.f3.length c6] 29)).cell? ⟨w.heap.size, 1, none⟩ = some (.int .i64 0) := (blk_cell BY.out 1).trans rfl); (have hz2 : (w2.alloc (.cells #[.int .i64 x.f0, .int .i64 x.f1, .string x.f2, .slice A6 x.f3.length c6] 29)).cell? ⟨w.heap.size, 2, none⟩ = some (.string ⟨#[]⟩) := (blk_cell BY.out 2).trans rfl); (have hz3 : (w2.alloc (.cells #[.int .i64 x.f0, .int .i64 x.f1, .string x.f2, .slice A6 x.f3.length c6] 29)).cell? ⟨w.heap.size, 3, none⟩ = some (.slice none 0 0) := (blk_cell BY.out 3).trans rfl); (have hf0 := blk_frozen BY.out 0); (have hf1 := blk_frozen BY.out 1); (have hf2 := blk_frozen BY.out 2); (have hf3 := blk_frozen BY.out 3)))
  refine decode_end (w := w) (e := 0) ?_ ?_ (st4_blk BY.out (.int .i64 x.f0) (.int .i64 x.f1) (.string x.f2) (.slice A6 x.f3.length c6)) ?_
  · rfl
  · rfl
  refine ⟨_, rfl, ?_, st4_below ((((Below.refl _ w).alloc (Nat.le_refl _) _).trans (P1.out.mono (by simp))).alloc (Nat.le_of_lt hlt_.out) _) (Nat.le_refl _) _ _ _ _⟩
  have h1 := Kd.R_bound (Kd.R_alloc RV.out (.cells #[.int .i64 x.f0, .int .i64 x.f1, .string x.f2, .slice A6 x.f3.length c6] 29))
  have h2 := Kd.R_kept h1 (st4_kept (Kept.refl _ (fun k => k = w.heap.size)) (.inl rfl) (.int .i64 x.f0) (.int .i64 x.f1) (.string x.f2) (.slice A6 x.f3.length c6)) (fun k hk e_ => by have h3 := hk.2.1; rw [World.size_alloc] at h3; omega)
  exact Kd.R_mono (Kd.R_lower h2 (by rw [World.size_alloc]; omega)) (fun _ _ => trivial)
set_option maxHeartbeats 3200000 in
set_option maxRecDepth 100000 in
theorem decode_fail (w : World) (A0 : Option Addr) (c0 : Nat) (l0 : List Int) (hr0 : (Kd.int .u8).C w A0 l0.length l0) (hc0 : l0.length ≤ c0) (hb : Bytes l0) (hl : l0.length ≤ 1048576) (k : Nat) (x : S29) (l1 : List Int) (hv : rvalue k l0 64 = some (x, false, l1)) :
    Calls Try.prog 22 #[.slice A0 l0.length c0] w fun e w' => e = .returned (.tuple #[.agg #[.int .i64 0, .int .i64 0, .string ⟨#[]⟩, .slice none 0 0], .int .i64 4]) ∧ Below w.heap.size w w' := by
  have HR := Aside0.mk hr0
  have HC := Aside0.mk hc0
  have b0 : decide ((l0.length : Int) > 1048576) = false := decide_eq_false (by omega)
  have b1 : decide ((1048576 : Int) < (l0.length : Int)) = false := decide_eq_false (by omega)
  have b2 : ((1048576 : Int) < (l0.length : Int)) = False := eq_false (by omega)
  clear hr0 hc0 hl
  go_enter Try.func22, Try.ntmps22
  go_wp2_with (first | (go_at_call 26; (refine (next_fail _ A0 c0 l0 (Kd.C_below HR.out ((Below.refl _ w).alloc (Nat.le_refl _) _)) HC.out hb k x l1 hv).mono ?_); rintro e w2 ⟨rfl, p1⟩; (have P1 := Aside0.mk p1); clear p1; (have BZ := Aside0.mk (blk_below (blk_new w (.cells #[.int .i64 0, .int .i64 0, .string ⟨#[]⟩, .slice none 0 0] 29)) P1.out)); (have hlt_ := Aside0.mk (blk_lt BZ.out)); (have BY := Aside0.mk (blk_alloc BZ.out (.cells #[.int .i64 0, .int .i64 0, .string ⟨#[]⟩, .slice none 0 0] 29))); (have hz0 : (w2.alloc (.cells #[.int .i64 0, .int .i64 0, .string ⟨#[]⟩, .slice none 0 0] 29)).cell? ⟨w.heap.size, 0, none⟩ = some (.int .i64 0) := (blk_cell BY.out 0).trans rfl); (have hz1 : (w2.alloc (.cells #[.int .i64 0, .int .i64 0, .string ⟨#[]⟩, .slice none 0 0] 29)).cell? ⟨w.heap.size, 1, none⟩ = some (.int .i64 0) := (blk_cell BY.out 1).trans rfl); (have hz2 : (w2.alloc (.cells #[.int .i64 0, .int .i64 0, .string ⟨#[]⟩, .slice none 0 0] 29)).cell? ⟨w.heap.size, 2, none⟩ = some (.string ⟨#[]⟩) := (blk_cell BY.out 2).trans rfl); (have hz3 : (w2.alloc (.cells #[.int .i64 0, .int .i64 0, .string ⟨#[]⟩, .slice none 0 0] 29)).cell? ⟨w.heap.size, 3, none⟩ = some (.slice none 0 0) := (blk_cell BY.out 3).trans rfl); (have hf0 := blk_frozen BY.out 0); (have hf1 := blk_frozen BY.out 1); (have hf2 := blk_frozen BY.out 2); (have hf3 := blk_frozen BY.out 3)))
  refine decode_end (w := w) (e := 4) ?_ ?_ (st4_blk BY.out (.int .i64 0) (.int .i64 0) (.string ⟨#[]⟩) (.slice none 0 0)) ?_
  · rfl
  · rfl
  exact ⟨rfl, st4_below ((((Below.refl _ w).alloc (Nat.le_refl _) _).trans (P1.out.mono (by simp))).alloc (Nat.le_of_lt hlt_.out) _) (Nat.le_refl _) _ _ _ _⟩
set_option maxHeartbeats 3200000 in
set_option maxRecDepth 100000 in
theorem decode_rest (w : World) (A0 : Option Addr) (c0 : Nat) (l0 : List Int) (hr0 : (Kd.int .u8).C w A0 l0.length l0) (hc0 : l0.length ≤ c0) (hb : Bytes l0) (hl : l0.length ≤ 1048576) (k : Nat) (x : S29) (l1 : List Int) (hlen : l1.length ≤ 140737488355000) (h1 : 0 < l1.length) (hv : rvalue k l0 64 = some (x, true, l1)) :
    Calls Try.prog 22 #[.slice A0 l0.length c0] w fun e w' => e = .returned (.tuple #[.agg #[.int .i64 0, .int .i64 0, .string ⟨#[]⟩, .slice none 0 0], .int .i64 4]) ∧ Below w.heap.size w w' := by
  have HR := Aside0.mk hr0
  have HC := Aside0.mk hc0
  have b0 : decide ((l0.length : Int) > 1048576) = false := decide_eq_false (by omega)
  have b1 : decide ((1048576 : Int) < (l0.length : Int)) = false := decide_eq_false (by omega)
  have b2 : ((1048576 : Int) < (l0.length : Int)) = False := eq_false (by omega)
  have t0 : decide ((l1.length : Int) > 0) = true := decide_eq_true (by omega)
  have t1 : decide ((0 : Int) < (l1.length : Int)) = true := decide_eq_true (by omega)
  have t2 : (0 < l1.length) = True := eq_true h1
  clear hr0 hc0 hl h1
  go_enter Try.func22, Try.ntmps22
  go_wp2_with (first | (go_at_call 26; (refine (next_ok _ A0 c0 l0 (Kd.C_below HR.out ((Below.refl _ w).alloc (Nat.le_refl _) _)) HC.out hb k x l1 hlen hv).mono ?_); rintro e w2 ⟨v3, v4, rfl, hv3, hv4, p1⟩; obtain ⟨A4, c4, rfl⟩ := Kd.R_slice hv4; obtain ⟨A6, c6, rfl⟩ := Kd.R_slice hv3; (have P1 := Aside0.mk p1); (have RV := Aside0.mk hv3); clear hv4 hv3 p1; (have BZ := Aside0.mk (blk_below (blk_new w (.cells #[.int .i64 0, .int .i64 0, .string ⟨#[]⟩, .slice none 0 0] 29)) P1.out)); (have hlt_ := Aside0.mk (blk_lt BZ.out)); (have BY := Aside0.mk (blk_alloc BZ.out (.cells #[.int .i64 x.f0, .int .i64 x.f1, .string x.f2, .slice A6 x.f3.length c6] 29))); (have hz0 : (w2.alloc (.cells #[.int .i64 x.f0, .int .i64 x.f1, .string x.f2, .slice A6 x.f3.length c6] 29)).cell? ⟨w.heap.size, 0, none⟩ = some (.int .i64 0) := (blk_cell BY.out 0).trans rfl); (have hz1 : (w2.alloc (.cells #[.int .i64 x.f0, .int .i64 x.f1, .string x.f2, .slice A6 x.f3.length c6] 29)).cell? ⟨w.heap.size, 1, none⟩ = some (.int .i64 0) := (blk_cell BY.out 1).trans rfl); (have hz2 : (w2.alloc (.cells #[.int .i64 x.f0, .int .i64 x.f1, .string x.f2, .slice A6 x.f3.length c6] 29)).cell? ⟨w.heap.size, 2, none⟩ = some (.string ⟨#[]⟩) := (blk_cell BY.out 2).trans rfl); (have hz3 : (w2.alloc (.cells #[.int .i64 x.f0, .int .i64 x.f1, .string x.f2, .slice A6 x.f3.length c6] 29)).cell? ⟨w.heap.size, 3, none⟩ = some (.slice none 0 0) := (blk_cell BY.out 3).trans rfl); (have hf0 := blk_frozen BY.out 0); (have hf1 := blk_frozen BY.out 1); (have hf2 := blk_frozen BY.out 2); (have hf3 := blk_frozen BY.out 3)))
  refine decode_end (w := w) (e := 4) ?_ ?_ (st4_blk BY.out (.int .i64 0) (.int .i64 0) (.string ⟨#[]⟩) (.slice none 0 0)) ?_
  · rfl
  · rfl
  exact ⟨rfl, st4_below ((((Below.refl _ w).alloc (Nat.le_refl _) _).trans (P1.out.mono (by simp))).alloc (Nat.le_of_lt hlt_.out) _) (Nat.le_refl _) _ _ _ _⟩
set_option maxHeartbeats 3200000 in
set_option maxRecDepth 100000 in
theorem decode_long (w : World) (A0 : Option Addr) (c0 : Nat) (l0 : List Int) (hl : l0.length > 1048576) :
    Calls Try.prog 22 #[.slice A0 l0.length c0] w fun e w' => e = .returned (.tuple #[.agg #[.int .i64 0, .int .i64 0, .string ⟨#[]⟩, .slice none 0 0], .int .i64 4]) ∧ Below w.heap.size w w' := by
  have b0 : decide ((l0.length : Int) > 1048576) = true := decide_eq_true (by omega)
  have b1 : decide ((1048576 : Int) < (l0.length : Int)) = true := decide_eq_true (by omega)
  have b2 : ((1048576 : Int) < (l0.length : Int)) = True := eq_true (by omega)
  have BY := Aside0.mk (blk_new w (.cells #[.int .i64 0, .int .i64 0, .string ⟨#[]⟩, .slice none 0 0] 29))
  have hz0 : (w.alloc (.cells #[.int .i64 0, .int .i64 0, .string ⟨#[]⟩, .slice none 0 0] 29)).cell? ⟨w.heap.size, 0, none⟩ = some (.int .i64 0) := (blk_cell BY.out 0).trans rfl
  clear hl
  go_enter Try.func22, Try.ntmps22
  go_wp2
  refine decode_end (w := w) (e := 4) ?_ ?_ BY.out ?_
  · rfl
  · rfl
  exact ⟨rfl, (Below.refl _ w).alloc (Nat.le_refl _) _⟩
def codec_Decode.f (k : Nat) (l0 : List Int) : Option (Int × Int × ByteArray × List S29 × Int) :=
  if allBytes l0 = true then (if l0.length > 1048576 then some (0, 0, ⟨#[]⟩, [], 4) else (rvalue k l0 64).bind fun t => (if t.2.1 = true then (if t.2.2 = [] then some (t.1.f0, t.1.f1, t.1.f2, t.1.f3, 0) else (if t.2.2.length ≤ 140737488355000 then some (0, 0, ⟨#[]⟩, [], 4) else none)) else some (0, 0, ⟨#[]⟩, [], 4))) else none
theorem codec_Decode.mono : ∀ a0 k, LeO (codec_Decode.f k a0) (codec_Decode.f (k + 1) a0) := by
  intro a0 k
  unfold codec_Decode.f
  repeat' first
  | (with_reducible exact rvalue.mono _ _ _)
  | (with_reducible exact LeO.refl _)
  | (with_reducible exact LeO.none _)
  | (with_reducible refine LeO.ite ?_ ?_)
  | (with_reducible refine LeO.bind ?_ (fun _ => ?_))
theorem codec_Decode.calls (k : Nat) (A0 : Option Addr) (c0 : Nat) (l0 : List Int) (r1 : Int) (r2 : Int) (r3 : ByteArray) (r4 : List (S29)) (r5 : Int) (w : World) (hr0 : Kd.C (Kd.int .u8) w A0 l0.length l0) (hc0 : l0.length ≤ c0) (h : codec_Decode.f k l0 = some (r1, r2, r3, r4, r5)) :
    Calls Try.prog 22 #[.slice A0 l0.length c0] w fun e w' => ∃ v3_ : Value, e = .returned (.tuple #[.agg #[.int .i64 r1, .int .i64 r2, .string r3, v3_], .int .i64 r5]) ∧ Kd.R k29 29 w' w.heap.size (fun _ => True) v3_ r4 ∧ Below w.heap.size w w' := by
  unfold codec_Decode.f at h
  by_cases ha : allBytes l0 = true
  · rw [if_pos ha] at h
    have hb := allBytes_bytes ha
    by_cases hl : l0.length > 1048576
    · rw [if_pos hl] at h
      simp only [Option.some.injEq, Prod.mk.injEq] at h
      obtain ⟨rfl, rfl, rfl, rfl, rfl⟩ := h
      exact (decode_long w A0 c0 l0 hl).mono fun e w' ⟨h1, h2⟩ => ⟨_, h1, Kd.R_nil _ _ _ _ _, h2⟩
    · rw [if_neg hl] at h
      obtain ⟨⟨x, ok, l1⟩, hv, h⟩ := Option.bind_eq_some_iff.1 h
      dsimp only at h
      cases ok with
      | false =>
        rw [if_neg (by decide)] at h
        simp only [Option.some.injEq, Prod.mk.injEq] at h
        obtain ⟨rfl, rfl, rfl, rfl, rfl⟩ := h
        exact (decode_fail w A0 c0 l0 hr0 hc0 hb (by omega) k x l1 hv).mono fun e w' ⟨h1, h2⟩ => ⟨_, h1, Kd.R_nil _ _ _ _ _, h2⟩
      | true =>
        rw [if_pos rfl] at h
        by_cases hn : l1 = []
        · rw [if_pos hn] at h
          subst hn
          simp only [Option.some.injEq, Prod.mk.injEq] at h
          obtain ⟨rfl, rfl, rfl, rfl, rfl⟩ := h
          exact decode_ok w A0 c0 l0 hr0 hc0 hb (by omega) k x hv
        · rw [if_neg hn] at h
          by_cases hl1 : l1.length ≤ 140737488355000
          · rw [if_pos hl1] at h
            simp only [Option.some.injEq, Prod.mk.injEq] at h
            obtain ⟨rfl, rfl, rfl, rfl, rfl⟩ := h
            exact (decode_rest w A0 c0 l0 hr0 hc0 hb (by omega) k x l1 hl1 (List.length_pos_iff.2 hn) hv).mono fun e w' ⟨h1, h2⟩ => ⟨_, h1, Kd.R_nil _ _ _ _ _, h2⟩
          · rw [if_neg hl1] at h
            cases h
  · rw [if_neg ha] at h
    cases h

/-! ### vinculumlaw03_CodecCut: function 6 -/
mutual
def vinculumlaw03_CodecCut.j0 : Nat → Int → List Int → Bool → Int → Int → ByteArray → List (S24) → Option (Bool)
  | 0, _, _, _, _, _, _, _ => none
  | k + 1, x1, x2, x22, x146000, x146001, x146002, x146003 => if x22 = true then (some true) else ((vinculumlaw03_own.f k x146000 x146001 x146002 x146003).bind fun bt148 => ((codec_Encode.f k bt148.1 bt148.2.1 bt148.2.2.1 bt148.2.2.2).bind fun bt154 => (if bt154.2 = 0 then (vinculumlaw03_CodecCut.j1 k x1 x2 bt154.1 bt154.2 ((bt154.1.length : Int) == 0)) else (vinculumlaw03_CodecCut.j1 k x1 x2 bt154.1 bt154.2 true))))
def vinculumlaw03_CodecCut.j1 : Nat → Int → List Int → List Int → Int → Bool → Option (Bool)
  | 0, _, _, _, _, _ => none
  | k + 1, x1, x2, x7, x8, x35 => if x35 = true then (some (x8 != 0)) else (if (x7.length : Int) = 0 then (none) else (if 0 ≤ (Int.tmod (wrap64 (x1)) (x7.length : Int)) then (if (Int.tmod (wrap64 (x1)) (x7.length : Int)) ≤ (x7.length : Int) then ((codec_Decode.f k (x7.take ((Int.tmod (wrap64 (x1)) (x7.length : Int)) : Int).toNat)).bind fun bt162 => ((some (([] : List Int) : List Int)).bind fun y170 => (if y170.length + x7.length < 140737488355328 then ((some (y170 ++ x7 : List Int)).bind fun y173 => (if y173.length + x2.length < 140737488355328 then ((codec_Decode.f k (y173 ++ x2)).bind fun bt179 => (if bt162.2.2.2.2 = 4 then (some ((bt179.2.2.2.2 == 0) == ((x2.length : Int) == 0))) else (some false))) else (none))) else (none)))) else (none)) else (none)))
end
def vinculumlaw03_CodecCut.f (k : Nat) (a0_0 : Int) (a0_1 : Int) (a0_2 : ByteArray) (l0_3 : List (S24)) (a1 : Int) (l2 : List Int) : Option (Bool) := (vinculumlaw03_awake.f k).bind fun t146 => (if t146 = true then ((vinculumlaw03_few.f k a0_0 a0_1 a0_2 l0_3).bind fun t147 => (if t147 = true then (vinculumlaw03_CodecCut.j0 k a1 l2 (decide ((l2.length : Int) > 100)) a0_0 a0_1 a0_2 l0_3) else (vinculumlaw03_CodecCut.j0 k a1 l2 true a0_0 a0_1 a0_2 l0_3))) else (some false))
theorem vinculumlaw03_CodecCut.mono_l : ∀ k, (∀ y0 y1 y2 y3 y4 y5 y6, LeO (vinculumlaw03_CodecCut.j0 k y0 y1 y2 y3 y4 y5 y6) (vinculumlaw03_CodecCut.j0 (k + 1) y0 y1 y2 y3 y4 y5 y6)) ∧ (∀ y0 y1 y2 y3 y4, LeO (vinculumlaw03_CodecCut.j1 k y0 y1 y2 y3 y4) (vinculumlaw03_CodecCut.j1 (k + 1) y0 y1 y2 y3 y4))
  | 0 => ⟨fun _ _ _ _ _ _ _ r h => by simp [vinculumlaw03_CodecCut.j0] at h, fun _ _ _ _ _ r h => by simp [vinculumlaw03_CodecCut.j1] at h⟩
  | k + 1 => by
    obtain ⟨ih0, ih1⟩ := vinculumlaw03_CodecCut.mono_l k
    refine ⟨?_, ?_⟩
    · intro y0 y1 y2 y3 y4 y5 y6
      unfold vinculumlaw03_CodecCut.j0
      repeat' first
      | (with_reducible exact ih0 _ _ _ _ _ _ _)
      | (with_reducible exact ih1 _ _ _ _ _)
      | (with_reducible exact codec_Decode.mono _ _)
      | (with_reducible exact codec_Encode.mono _ _ _ _ _)
      | (with_reducible exact vinculumlaw03_awake.mono _)
      | (with_reducible exact vinculumlaw03_few.mono _ _ _ _ _)
      | (with_reducible exact vinculumlaw03_own.mono _ _ _ _ _)
      | (with_reducible exact LeO.refl _)
      | (with_reducible exact LeO.none _)
      | (with_reducible refine LeO.ite ?_ ?_)
      | (with_reducible refine LeO.bind ?_ (fun _ => ?_))
      | exact ih0 _ _ _ _ _ _ _
      | exact ih1 _ _ _ _ _
      | exact codec_Decode.mono _ _
      | exact codec_Encode.mono _ _ _ _ _
      | exact vinculumlaw03_awake.mono _
      | exact vinculumlaw03_few.mono _ _ _ _ _
      | exact vinculumlaw03_own.mono _ _ _ _ _
      | exact LeO.none _
      | refine LeO.ite ?_ ?_
      | refine LeO.bind ?_ (fun _ => ?_)
    · intro y0 y1 y2 y3 y4
      unfold vinculumlaw03_CodecCut.j1
      repeat' first
      | (with_reducible exact ih0 _ _ _ _ _ _ _)
      | (with_reducible exact ih1 _ _ _ _ _)
      | (with_reducible exact codec_Decode.mono _ _)
      | (with_reducible exact codec_Encode.mono _ _ _ _ _)
      | (with_reducible exact vinculumlaw03_awake.mono _)
      | (with_reducible exact vinculumlaw03_few.mono _ _ _ _ _)
      | (with_reducible exact vinculumlaw03_own.mono _ _ _ _ _)
      | (with_reducible exact LeO.refl _)
      | (with_reducible exact LeO.none _)
      | (with_reducible refine LeO.ite ?_ ?_)
      | (with_reducible refine LeO.bind ?_ (fun _ => ?_))
      | exact ih0 _ _ _ _ _ _ _
      | exact ih1 _ _ _ _ _
      | exact codec_Decode.mono _ _
      | exact codec_Encode.mono _ _ _ _ _
      | exact vinculumlaw03_awake.mono _
      | exact vinculumlaw03_few.mono _ _ _ _ _
      | exact vinculumlaw03_own.mono _ _ _ _ _
      | exact LeO.none _
      | refine LeO.ite ?_ ?_
      | refine LeO.bind ?_ (fun _ => ?_)
theorem vinculumlaw03_CodecCut.mono : ∀ a0 a1 a2 a3 a4 a5 k, LeO (vinculumlaw03_CodecCut.f k a0 a1 a2 a3 a4 a5) (vinculumlaw03_CodecCut.f (k + 1) a0 a1 a2 a3 a4 a5) := by
  intro a0 a1 a2 a3 a4 a5 k
  obtain ⟨ih0, ih1⟩ := vinculumlaw03_CodecCut.mono_l k
  unfold vinculumlaw03_CodecCut.f
  repeat' first
      | (with_reducible exact ih0 _ _ _ _ _ _ _)
      | (with_reducible exact ih1 _ _ _ _ _)
      | (with_reducible exact codec_Decode.mono _ _)
      | (with_reducible exact codec_Encode.mono _ _ _ _ _)
      | (with_reducible exact vinculumlaw03_awake.mono _)
      | (with_reducible exact vinculumlaw03_few.mono _ _ _ _ _)
      | (with_reducible exact vinculumlaw03_own.mono _ _ _ _ _)
      | (with_reducible exact LeO.refl _)
      | (with_reducible exact LeO.none _)
      | (with_reducible refine LeO.ite ?_ ?_)
      | (with_reducible refine LeO.bind ?_ (fun _ => ?_))
      | exact ih0 _ _ _ _ _ _ _
      | exact ih1 _ _ _ _ _
      | exact codec_Decode.mono _ _
      | exact codec_Encode.mono _ _ _ _ _
      | exact vinculumlaw03_awake.mono _
      | exact vinculumlaw03_few.mono _ _ _ _ _
      | exact vinculumlaw03_own.mono _ _ _ _ _
      | exact LeO.none _
      | refine LeO.ite ?_ ?_
      | refine LeO.bind ?_ (fun _ => ?_)
set_option maxHeartbeats 8000000 in
set_option maxRecDepth 100000 in
theorem vinculumlaw03_CodecCut.calls (k : Nat) (a0_0 : Int) (a0_1 : Int) (a0_2 : ByteArray) (A0_3 : Option Addr) (c0_3 : Nat) (l0_3 : List (S24)) (a1 : Int) (A2 : Option Addr) (c2 : Nat) (l2 : List Int) (r : Bool) (w : World) (hr0_3 : Kd.C k24 w A0_3 l0_3.length l0_3) (hc0_3 : l0_3.length ≤ c0_3) (hr2 : Kd.C (Kd.int .u8) w A2 l2.length l2) (hc2 : l2.length ≤ c2) (h : vinculumlaw03_CodecCut.f k a0_0 a0_1 a0_2 l0_3 a1 l2 = some r) :
    Calls Try.prog 6 #[.agg #[.int .i64 a0_0, .int .i64 a0_1, .string a0_2, .slice A0_3 l0_3.length c0_3], .int .u16 a1, .slice A2 l2.length c2] w fun e w' => e = .returned (.bool r) ∧ Below w.heap.size w w' := by
  have hu24 := Try.underlying24
  have hu29 := Try.underlying29
  have HR0_3 := Aside0.mk hr0_3
  have HC0_3 := Aside0.mk hc0_3
  clear hr0_3 hc0_3
  have HR2 := Aside0.mk hr2
  have HC2 := Aside0.mk hc2
  clear hr2 hc2
  have HB := Aside0.mk (Below.refl w.heap.size w)
  have H : ((vinculumlaw03_awake.f k).bind fun t146 => (if t146 = true then ((vinculumlaw03_few.f k a0_0 a0_1 a0_2 l0_3).bind fun t147 => (if t147 = true then (vinculumlaw03_CodecCut.j0 k a1 l2 (decide ((l2.length : Int) > 100)) a0_0 a0_1 a0_2 l0_3) else (vinculumlaw03_CodecCut.j0 k a1 l2 true a0_0 a0_1 a0_2 l0_3))) else (some false))) = some r := h
  clear h
  replace H := Option.bind_eq_some_iff.mp H
  obtain ⟨t146, A40, H⟩ := H
  replace H : (if t146 = true then ((vinculumlaw03_few.f k a0_0 a0_1 a0_2 l0_3).bind fun t147 => (if t147 = true then (vinculumlaw03_CodecCut.j0 k a1 l2 (decide ((l2.length : Int) > 100)) a0_0 a0_1 a0_2 l0_3) else (vinculumlaw03_CodecCut.j0 k a1 l2 true a0_0 a0_1 a0_2 l0_3))) else (some false)) = some r := H
  have A4 := Aside0.mk A40
  clear A40
  by_cases c5 : t146 = true
  · subst c5
    have H1 : ((vinculumlaw03_few.f k a0_0 a0_1 a0_2 l0_3).bind fun t147 => (if t147 = true then (vinculumlaw03_CodecCut.j0 k a1 l2 (decide ((l2.length : Int) > 100)) a0_0 a0_1 a0_2 l0_3) else (vinculumlaw03_CodecCut.j0 k a1 l2 true a0_0 a0_1 a0_2 l0_3))) = some r := by rw [if_pos rfl] at H; exact H
    clear H
    have H := H1
    clear H1
    have HC6 := Aside0.mk H
    clear H
    go_enter Try.func6, Try.ntmps6
    go_upto_region 3 with (first | ((with_reducible refine gate_dst (N := 3) rfl ?_); (try (refine gate_guard (by rfl) ?_; dsimp only)); refine box_event ?hg (N := 3) ?hd (cs := #[.int .i64 a0_0, .int .i64 a0_1, .string a0_2, .slice A0_3 l0_3.length c0_3]) (t := 24) ?hr ?_; (case hd => rfl); (case hg => rfl); (case hr => first | (go_simp; done) | (go_simp; rfl)); intro gb145 hg w7 hbox hb; have n0_ := Aside0.mk (below_step (by repeat (first | (with_reducible first | exact HB.out | apply below_alloc | apply pw_below_drewN | apply below_drew1) | exact HB.out)) hb); have n1_ := Aside0.mk (hbox); have n2_ := Aside0.mk ((by rw [hg]; exact (below_size (by repeat (first | (with_reducible first | exact HB.out | apply below_alloc | apply pw_below_drewN | apply below_drew1) | exact HB.out))) : w.heap.size ≤ gb145)); have n3_ := Aside0.mk ((by rw [hg]; exact (below_size (by repeat (first | (with_reducible first | exact HB.out | apply below_alloc | apply pw_below_drewN | apply below_drew1) | exact HB.out))) : w.heap.size ≤ gb145)); clear HB; have HB := n0_; have BK145 := n1_; have GW145 := n2_; have GE145 := n3_; clear n0_ n1_ n2_ n3_; clear hb hbox hg) | ((with_reducible refine gate_callee (f := 11) rfl ?_); refine goesL_ (some 13) rfl rfl Try.func11 (by kernel_rfl) rfl #[] rfl (by (try simp only [List.map_toArray, List.map_cons, List.map_nil]); first | done | rfl | (simp only [List.length_drop, List.length_take]; rfl)) ?_; (with_reducible refine (vinculumlaw03_awake.calls k  true _ A4.out).mono ?_); rintro e w8 ⟨rfl, hb⟩; refine ⟨_, rfl, ?_⟩; have n0_ := Aside0.mk (blk_below (g := gb145) (o := .cells #[.int .i64 a0_0, .int .i64 a0_1, .string a0_2, .slice A0_3 l0_3.length c0_3] 24 (0, 0)) (by (with_reducible repeat (first | refine blk_drewN ?_ _ | refine blk_drew ?_ | refine blk_alloc ?_ _)); exact BK145.out) hb); have n1_ := Aside0.mk (below_step (by repeat (first | (with_reducible first | exact HB.out | apply below_alloc | apply pw_below_drewN | apply below_drew1 | refine below_set ?_ GE145.out) | exact HB.out)) hb); clear BK145; clear HB; have BK145 := n0_; have HB := n1_; clear n0_ n1_; (try clear hb); (try clear hb2); (try clear hk); (try clear hi)))
    (try simp only [Act.put, List.setIfInBounds_toArray, List.set_cons_zero, List.set_cons_succ])
    go_cut [22] (fun v22 wc => ∃ (kq : Nat) (x22_5 : Bool), v22 = .bool x22_5 ∧ Aside0 (vinculumlaw03_CodecCut.j0 kq a1 l2 x22_5 a0_0 a0_1 a0_2 l0_3 = some r) ∧ Aside0 (kq ≤ k) ∧ Aside0 (wc.heap[gb145]? = some (.cells #[.int .i64 a0_0, .int .i64 a0_1, .string a0_2, (.slice A0_3 l0_3.length c0_3)] 24 (0, 0))) ∧ Aside0 (Below w.heap.size w wc))
    case first =>
      have H := HC6.out
      clear HC6
      replace H := Option.bind_eq_some_iff.mp H
      obtain ⟨t147, A90, H⟩ := H
      replace H : (if t147 = true then (vinculumlaw03_CodecCut.j0 k a1 l2 (decide ((l2.length : Int) > 100)) a0_0 a0_1 a0_2 l0_3) else (vinculumlaw03_CodecCut.j0 k a1 l2 true a0_0 a0_1 a0_2 l0_3)) = some r := H
      have A9 := Aside0.mk A90
      clear A90
      by_cases c10 : t147 = true
      · subst c10
        have H1 : (vinculumlaw03_CodecCut.j0 k a1 l2 (decide ((l2.length : Int) > 100)) a0_0 a0_1 a0_2 l0_3) = some r := by rw [if_pos rfl] at H; exact H
        clear H
        have H := H1
        clear H1
        have H' := Aside0.mk H
        clear H
        have hcz11_0 : w8.cell? ⟨gb145, 0, none⟩ = some (.int .i64 a0_0) := (blk_cell BK145.out 0).trans rfl
        have hcz11_1 : w8.cell? ⟨gb145, 1, none⟩ = some (.int .i64 a0_1) := (blk_cell BK145.out 1).trans rfl
        have hcz11_2 : w8.cell? ⟨gb145, 2, none⟩ = some (.string a0_2) := (blk_cell BK145.out 2).trans rfl
        have hcz11_3 : w8.cell? ⟨gb145, 3, none⟩ = some (.slice A0_3 l0_3.length c0_3) := (blk_cell BK145.out 3).trans rfl
        have hfz11_0 := blk_frozen BK145.out 0
        have hfz11_1 := blk_frozen BK145.out 1
        have hfz11_2 := blk_frozen BK145.out 2
        have hfz11_3 := blk_frozen BK145.out 3
        go_wp2_with (first | ((with_reducible refine gate_callee (f := 12) rfl ?_); refine goesL_ (some 16) rfl rfl Try.func12 (by kernel_rfl) rfl #[.agg #[.int .i64 a0_0, .int .i64 a0_1, .string a0_2, .slice A0_3 l0_3.length c0_3]] rfl (by (try simp only [List.map_toArray, List.map_cons, List.map_nil]); first | done | rfl | (simp only [List.length_drop, List.length_take]; rfl)) ?_; (with_reducible refine (vinculumlaw03_few.calls k a0_0 a0_1 a0_2 _ _ l0_3 true _ ?side1 ?side2 A9.out).mono ?_); (case side1 => repeat (first | exact (Kd.C_below HR0_3.out HB.out) | (with_reducible refine Kd.C_alloc ?_ _) | (with_reducible refine Kd.C_drewN ?_ _) | (with_reducible refine Kd.C_drew ?_))); (case side2 => exact HC0_3.out); rintro e w12 ⟨rfl, hb⟩; refine ⟨_, rfl, ?_⟩; have n0_ := Aside0.mk (blk_below (g := gb145) (o := .cells #[.int .i64 a0_0, .int .i64 a0_1, .string a0_2, .slice A0_3 l0_3.length c0_3] 24 (0, 0)) (by (with_reducible repeat (first | refine blk_drewN ?_ _ | refine blk_drew ?_ | refine blk_alloc ?_ _)); exact BK145.out) hb); have n1_ := Aside0.mk (below_step (by repeat (first | (with_reducible first | exact HB.out | apply below_alloc | apply pw_below_drewN | apply below_drew1 | refine below_set ?_ GE145.out) | exact HB.out)) hb); clear BK145; clear HB; have BK145 := n0_; have HB := n1_; clear n0_ n1_; (try clear hb); (try clear hb2); (try clear hk); (try clear hi)))
        go_meet
        case rel => exact ⟨_, (decide ((l2.length : Int) > 100)), (by first | rfl | (simp; done) | (simp [*]; done) | (simp [ne_nil_bool]; done)), H', ⟨by first | omega | exact Nat.le_refl _⟩, ⟨by (with_reducible repeat (first | refine blk_drewN ?_ _ | refine blk_drew ?_ | refine blk_alloc ?_ _)); exact BK145.out⟩, ⟨by repeat (first | (with_reducible first | exact HB.out | apply below_alloc | apply pw_below_drewN | apply below_drew1 | refine below_set ?_ GE145.out) | exact HB.out)⟩⟩
      · replace c10 := Bool.eq_false_iff.mpr c10
        subst c10
        have H1 : (vinculumlaw03_CodecCut.j0 k a1 l2 true a0_0 a0_1 a0_2 l0_3) = some r := by rw [if_neg (show ¬ (false = true) by decide)] at H; exact H
        clear H
        have H := H1
        clear H1
        have H' := Aside0.mk H
        clear H
        have hcz13_0 : w8.cell? ⟨gb145, 0, none⟩ = some (.int .i64 a0_0) := (blk_cell BK145.out 0).trans rfl
        have hcz13_1 : w8.cell? ⟨gb145, 1, none⟩ = some (.int .i64 a0_1) := (blk_cell BK145.out 1).trans rfl
        have hcz13_2 : w8.cell? ⟨gb145, 2, none⟩ = some (.string a0_2) := (blk_cell BK145.out 2).trans rfl
        have hcz13_3 : w8.cell? ⟨gb145, 3, none⟩ = some (.slice A0_3 l0_3.length c0_3) := (blk_cell BK145.out 3).trans rfl
        have hfz13_0 := blk_frozen BK145.out 0
        have hfz13_1 := blk_frozen BK145.out 1
        have hfz13_2 := blk_frozen BK145.out 2
        have hfz13_3 := blk_frozen BK145.out 3
        go_wp2_with (first | ((with_reducible refine gate_callee (f := 12) rfl ?_); refine goesL_ (some 16) rfl rfl Try.func12 (by kernel_rfl) rfl #[.agg #[.int .i64 a0_0, .int .i64 a0_1, .string a0_2, .slice A0_3 l0_3.length c0_3]] rfl (by (try simp only [List.map_toArray, List.map_cons, List.map_nil]); first | done | rfl | (simp only [List.length_drop, List.length_take]; rfl)) ?_; (with_reducible refine (vinculumlaw03_few.calls k a0_0 a0_1 a0_2 _ _ l0_3 false _ ?side1 ?side2 A9.out).mono ?_); (case side1 => repeat (first | exact (Kd.C_below HR0_3.out HB.out) | (with_reducible refine Kd.C_alloc ?_ _) | (with_reducible refine Kd.C_drewN ?_ _) | (with_reducible refine Kd.C_drew ?_))); (case side2 => exact HC0_3.out); rintro e w14 ⟨rfl, hb⟩; refine ⟨_, rfl, ?_⟩; have n0_ := Aside0.mk (blk_below (g := gb145) (o := .cells #[.int .i64 a0_0, .int .i64 a0_1, .string a0_2, .slice A0_3 l0_3.length c0_3] 24 (0, 0)) (by (with_reducible repeat (first | refine blk_drewN ?_ _ | refine blk_drew ?_ | refine blk_alloc ?_ _)); exact BK145.out) hb); have n1_ := Aside0.mk (below_step (by repeat (first | (with_reducible first | exact HB.out | apply below_alloc | apply pw_below_drewN | apply below_drew1 | refine below_set ?_ GE145.out) | exact HB.out)) hb); clear BK145; clear HB; have BK145 := n0_; have HB := n1_; clear n0_ n1_; (try clear hb); (try clear hb2); (try clear hk); (try clear hi)))
        go_meet
        case rel => exact ⟨_, (true), (by first | rfl | (simp; done) | (simp [*]; done) | (simp [ne_nil_bool]; done)), H', ⟨by first | omega | exact Nat.le_refl _⟩, ⟨by (with_reducible repeat (first | refine blk_drewN ?_ _ | refine blk_drew ?_ | refine blk_alloc ?_ _)); exact BK145.out⟩, ⟨by repeat (first | (with_reducible first | exact HB.out | apply below_alloc | apply pw_below_drewN | apply below_drew1 | refine below_set ?_ GE145.out) | exact HB.out)⟩⟩
    case rest =>
      clear HC6
      try clear c1
      try clear c2
      try clear p2
      try clear c5
      try clear c6
      try clear c10
      try clear c11
      try clear c12
      try clear hcz11_0
      try clear hcz11_1
      try clear hcz11_2
      try clear hcz11_3
      try clear hcz13_0
      try clear hcz13_1
      try clear hcz13_2
      try clear hcz13_3
      try clear hfz11_0
      try clear hfz11_1
      try clear hfz11_2
      try clear hfz11_3
      try clear hfz13_0
      try clear hfz13_1
      try clear hfz13_2
      try clear hfz13_3
      obtain ⟨kq, x22_5, rfl, HA, HJ5, BK145, HB⟩ := hcut
      cases kq with
      | zero => exact absurd HA.out (by simp [vinculumlaw03_CodecCut.j0])
      | succ kj5 =>
        have H := HA.out
        clear HA
        simp only [vinculumlaw03_CodecCut.j0] at H
        by_cases c15 : x22_5 = true
        · subst c15
          have H1 : (some true) = some r := by rw [if_pos rfl] at H; exact H
          clear H
          have H := H1
          clear H1
          obtain rfl := Option.some.inj H
          go_wp2
          go_ret
          exact ⟨by first | rfl | (simp [errW_none, errW_some] <;> rfl) | (simp [*, errW_none, errW_some] <;> rfl), by repeat (first | (with_reducible first | exact HB.out | apply below_alloc | apply pw_below_drewN | apply below_drew1 | refine below_set ?_ GE145.out) | exact HB.out)⟩
        · replace c15 := Bool.eq_false_iff.mpr c15
          subst c15
          have H1 : ((vinculumlaw03_own.f kj5 a0_0 a0_1 a0_2 l0_3).bind fun bt148 => ((codec_Encode.f kj5 bt148.1 bt148.2.1 bt148.2.2.1 bt148.2.2.2).bind fun bt154 => (if bt154.2 = 0 then (vinculumlaw03_CodecCut.j1 kj5 a1 l2 bt154.1 bt154.2 ((bt154.1.length : Int) == 0)) else (vinculumlaw03_CodecCut.j1 kj5 a1 l2 bt154.1 bt154.2 true)))) = some r := by rw [if_neg (show ¬ (false = true) by decide)] at H; exact H
          clear H
          have H := H1
          clear H1
          replace H := Option.bind_eq_some_iff.mp H
          obtain ⟨⟨t148, t149, t150, t151⟩, A160, H⟩ := H
          replace H : ((codec_Encode.f kj5 t148 t149 t150 t151).bind fun bt154 => (if bt154.2 = 0 then (vinculumlaw03_CodecCut.j1 kj5 a1 l2 bt154.1 bt154.2 ((bt154.1.length : Int) == 0)) else (vinculumlaw03_CodecCut.j1 kj5 a1 l2 bt154.1 bt154.2 true))) = some r := H
          have A16 := Aside0.mk A160
          clear A160
          replace H := Option.bind_eq_some_iff.mp H
          obtain ⟨⟨t154, t157⟩, A170, H⟩ := H
          replace H : (if t157 = 0 then (vinculumlaw03_CodecCut.j1 kj5 a1 l2 t154 t157 ((t154.length : Int) == 0)) else (vinculumlaw03_CodecCut.j1 kj5 a1 l2 t154 t157 true)) = some r := H
          have A17 := Aside0.mk A170
          clear A170
          have HC18 := Aside0.mk H
          clear H
          have hcz19_0 : wc.cell? ⟨gb145, 0, none⟩ = some (.int .i64 a0_0) := (blk_cell BK145.out 0).trans rfl
          have hcz19_1 : wc.cell? ⟨gb145, 1, none⟩ = some (.int .i64 a0_1) := (blk_cell BK145.out 1).trans rfl
          have hcz19_2 : wc.cell? ⟨gb145, 2, none⟩ = some (.string a0_2) := (blk_cell BK145.out 2).trans rfl
          have hcz19_3 : wc.cell? ⟨gb145, 3, none⟩ = some (.slice A0_3 l0_3.length c0_3) := (blk_cell BK145.out 3).trans rfl
          have hfz19_0 := blk_frozen BK145.out 0
          have hfz19_1 := blk_frozen BK145.out 1
          have hfz19_2 := blk_frozen BK145.out 2
          have hfz19_3 := blk_frozen BK145.out 3
          go_upto_region 6 with (first | ((with_reducible refine gate_callee (f := 13) rfl ?_); refine goesL_ (some 25) rfl rfl Try.func13 (by kernel_rfl) rfl #[.agg #[.int .i64 a0_0, .int .i64 a0_1, .string a0_2, .slice A0_3 l0_3.length c0_3]] rfl (by (try simp only [List.map_toArray, List.map_cons, List.map_nil]); first | done | rfl | (simp only [List.length_drop, List.length_take]; rfl)) ?_; (with_reducible refine (vinculumlaw03_own.calls kj5 a0_0 a0_1 a0_2 _ _ l0_3 t148 t149 t150 t151 _ ?side1 ?side2 A16.out).mono ?_); (case side1 => repeat (first | exact (Kd.C_below HR0_3.out HB.out) | (with_reducible refine Kd.C_alloc ?_ _) | (with_reducible refine Kd.C_drewN ?_ _) | (with_reducible refine Kd.C_drew ?_))); (case side2 => exact HC0_3.out); rintro e w20 ⟨v152, rfl, ho0, hb⟩; refine ⟨_, rfl, ?_⟩; have n0_ := Aside0.mk (Kd.R_lower ho0 (below_size (by repeat (first | (with_reducible first | exact HB.out | apply below_alloc | apply pw_below_drewN | apply below_drew1 | refine below_set ?_ GE145.out) | exact HB.out)))); have n1_ := Aside0.mk (blk_below (g := gb145) (o := .cells #[.int .i64 a0_0, .int .i64 a0_1, .string a0_2, .slice A0_3 l0_3.length c0_3] 24 (0, 0)) (by (with_reducible repeat (first | refine blk_drewN ?_ _ | refine blk_drew ?_ | refine blk_alloc ?_ _)); exact BK145.out) hb); have n2_ := Aside0.mk (below_step (by repeat (first | (with_reducible first | exact HB.out | apply below_alloc | apply pw_below_drewN | apply below_drew1 | refine below_set ?_ GE145.out) | exact HB.out)) hb); clear BK145; clear HB; have HO153 := n0_; have BK145 := n1_; have HB := n2_; clear n0_ n1_ n2_; (try clear hb); (try clear hb2); (try clear hk); (try clear hi); (try clear ho0); obtain ⟨Ao21, co21, eo21⟩ := Kd.R_slice HO153.out; subst eo21) | ((with_reducible refine gate_callee (f := 14) rfl ?_); refine goesL_ (some 26) rfl rfl Try.func14 (by kernel_rfl) rfl #[.agg #[.int .i64 t148, .int .i64 t149, .string t150, .slice Ao21 t151.length co21]] rfl (by (try simp only [List.map_toArray, List.map_cons, List.map_nil]); first | done | rfl | (simp only [List.length_drop, List.length_take]; rfl)) ?_; (with_reducible refine (codec_Encode.calls kj5 t148 t149 t150 _ _ t151 t154 t157 _ ?side1 ?side2 A17.out).mono ?_); (case side1 => repeat (first | exact (Kd.R_reads' HO153.out).2.2 | (with_reducible refine Kd.C_alloc ?_ _) | (with_reducible refine Kd.C_drewN ?_ _) | (with_reducible refine Kd.C_drew ?_))); (case side2 => exact (Kd.R_reads' HO153.out).2.1); rintro e w22 ⟨v155, rfl, ho0, hb⟩; refine ⟨_, rfl, ?_⟩; have n0_ := Aside0.mk (Kd.R_below (by (with_reducible repeat (first | apply Kd.R_alloc | apply Kd.R_drewN | apply Kd.R_drew)); exact HO153.out) hb); have n1_ := Aside0.mk (Kd.R_lower ho0 (below_size (by repeat (first | (with_reducible first | exact HB.out | apply below_alloc | apply pw_below_drewN | apply below_drew1 | refine below_set ?_ GE145.out) | exact HB.out)))); have n2_ := Aside0.mk (blk_below (g := gb145) (o := .cells #[.int .i64 a0_0, .int .i64 a0_1, .string a0_2, .slice A0_3 l0_3.length c0_3] 24 (0, 0)) (by (with_reducible repeat (first | refine blk_drewN ?_ _ | refine blk_drew ?_ | refine blk_alloc ?_ _)); exact BK145.out) hb); have n3_ := Aside0.mk (below_step (by repeat (first | (with_reducible first | exact HB.out | apply below_alloc | apply pw_below_drewN | apply below_drew1 | refine below_set ?_ GE145.out) | exact HB.out)) hb); clear HO153; clear BK145; clear HB; have HO153 := n0_; have HO156 := n1_; have BK145 := n2_; have HB := n3_; clear n0_ n1_ n2_ n3_; (try clear hb); (try clear hb2); (try clear hk); (try clear hi); (try clear ho0)))
          (try simp only [Act.put, List.setIfInBounds_toArray, List.set_cons_zero, List.set_cons_succ])
          go_cut [35] (fun v35 wc => ∃ (kq : Nat) (x35_17 : Bool), v35 = .bool x35_17 ∧ Aside0 (vinculumlaw03_CodecCut.j1 kq a1 l2 t154 t157 x35_17 = some r) ∧ Aside0 (kq ≤ kj5) ∧ Aside0 (Kd.R (Kd.int .u8) 5 wc w.heap.size (fun _ => True) v155 t154) ∧ Aside0 (wc.heap[gb145]? = some (.cells #[.int .i64 a0_0, .int .i64 a0_1, .string a0_2, (.slice A0_3 l0_3.length c0_3)] 24 (0, 0))) ∧ Aside0 (Below w.heap.size w wc))
          case first =>
            have H := HC18.out
            clear HC18
            by_cases c23 : t157 = 0
            · rw [if_pos c23] at H
              have c23b0 : (t157 == 0) = true := beq_iff_eq.mpr c23
              have c23b1 : (t157 != 0) = false := bne_eq_false_iff_eq.mpr c23
              clear c23
              (first | rw [c23b0] | (simp only [i64_w, i32_w]; rw [c23b0]) | skip)
              have H' := Aside0.mk H
              clear H
              obtain ⟨Ao24, co24, eo24⟩ := Kd.R_slice HO156.out
              subst eo24
              go_wp2
              go_meet
              case rel => exact ⟨_, (((t154.length : Int) == 0)), (by first | rfl | (simp; done) | (simp [*]; done) | (simp [ne_nil_bool]; done)), H', ⟨by have := HJ5.out; first | omega | exact Nat.le_refl _⟩, ⟨by (with_reducible repeat (first | apply Kd.R_alloc | apply Kd.R_drewN | apply Kd.R_drew)); exact HO156.out⟩, ⟨by (with_reducible repeat (first | refine blk_drewN ?_ _ | refine blk_drew ?_ | refine blk_alloc ?_ _)); exact BK145.out⟩, ⟨by repeat (first | (with_reducible first | exact HB.out | apply below_alloc | apply pw_below_drewN | apply below_drew1 | refine below_set ?_ GE145.out) | exact HB.out)⟩⟩
            · rw [if_neg c23] at H
              have c23b0 : (t157 == 0) = false := beq_eq_false_iff_ne.mpr c23
              have c23b1 : (t157 != 0) = true := bne_iff_ne.mpr c23
              (first | rw [c23b0] | (simp only [i64_w, i32_w]; rw [c23b0]) | skip)
              have H' := Aside0.mk H
              clear H
              go_wp2
              go_meet
              case rel => exact ⟨_, (true), (by first | rfl | (simp; done) | (simp [*]; done) | (simp [ne_nil_bool]; done)), H', ⟨by have := HJ5.out; first | omega | exact Nat.le_refl _⟩, ⟨by (with_reducible repeat (first | apply Kd.R_alloc | apply Kd.R_drewN | apply Kd.R_drew)); exact HO156.out⟩, ⟨by (with_reducible repeat (first | refine blk_drewN ?_ _ | refine blk_drew ?_ | refine blk_alloc ?_ _)); exact BK145.out⟩, ⟨by repeat (first | (with_reducible first | exact HB.out | apply below_alloc | apply pw_below_drewN | apply below_drew1 | refine below_set ?_ GE145.out) | exact HB.out)⟩⟩
          case rest =>
            clear HC18
            try clear c1
            try clear c2
            try clear p2
            try clear c5
            try clear c6
            try clear c10
            try clear c11
            try clear c12
            try clear c13
            try clear c14
            try clear c15
            try clear c23
            try clear c23b0
            try clear c23b1
            try clear hcz11_0
            try clear hcz11_1
            try clear hcz11_2
            try clear hcz11_3
            try clear hcz13_0
            try clear hcz13_1
            try clear hcz13_2
            try clear hcz13_3
            try clear hcz19_0
            try clear hcz19_1
            try clear hcz19_2
            try clear hcz19_3
            try clear hfz11_0
            try clear hfz11_1
            try clear hfz11_2
            try clear hfz11_3
            try clear hfz13_0
            try clear hfz13_1
            try clear hfz13_2
            try clear hfz13_3
            try clear hfz19_0
            try clear hfz19_1
            try clear hfz19_2
            try clear hfz19_3
            try clear p2
            obtain ⟨kq, x35_17, rfl, HA, HJ17, HO_7, BK145, HB⟩ := hcut
            cases kq with
            | zero => exact absurd HA.out (by simp [vinculumlaw03_CodecCut.j1])
            | succ kj17 =>
              have H := HA.out
              clear HA
              simp only [vinculumlaw03_CodecCut.j1] at H
              by_cases c25 : x35_17 = true
              · subst c25
                have H1 : (some (t157 != 0)) = some r := by rw [if_pos rfl] at H; exact H
                clear H
                have H := H1
                clear H1
                obtain rfl := Option.some.inj H
                go_wp2
                go_ret
                exact ⟨by first | rfl | (simp [errW_none, errW_some] <;> rfl) | (simp [*, errW_none, errW_some] <;> rfl), by repeat (first | (with_reducible first | exact HB.out | apply below_alloc | apply pw_below_drewN | apply below_drew1 | refine below_set ?_ GE145.out) | exact HB.out)⟩
              · replace c25 := Bool.eq_false_iff.mpr c25
                subst c25
                have H1 : (if (t154.length : Int) = 0 then (none) else (if 0 ≤ (Int.tmod (wrap64 (a1)) (t154.length : Int)) then (if (Int.tmod (wrap64 (a1)) (t154.length : Int)) ≤ (t154.length : Int) then ((codec_Decode.f kj17 (t154.take ((Int.tmod (wrap64 (a1)) (t154.length : Int)) : Int).toNat)).bind fun bt162 => ((some (([] : List Int) : List Int)).bind fun y170 => (if y170.length + t154.length < 140737488355328 then ((some (y170 ++ t154 : List Int)).bind fun y173 => (if y173.length + l2.length < 140737488355328 then ((codec_Decode.f kj17 (y173 ++ l2)).bind fun bt179 => (if bt162.2.2.2.2 = 4 then (some ((bt179.2.2.2.2 == 0) == ((l2.length : Int) == 0))) else (some false))) else (none))) else (none)))) else (none)) else (none))) = some r := by rw [if_neg (show ¬ (false = true) by decide)] at H; exact H
                clear H
                have H := H1
                clear H1
                by_cases c26 : (t154.length : Int) = 0
                · rw [if_pos c26] at H
                  exact absurd H (by simp)
                · rw [if_neg c26] at H
                  have c26b0 : ((t154.length : Int) == 0) = false := beq_eq_false_iff_ne.mpr c26
                  have c26b1 : ((t154.length : Int) != 0) = true := bne_iff_ne.mpr c26
                  have c26b2 : ¬ (t154 = []) := fun h_ => c26 (by rw [h_]; rfl)
                  obtain ⟨ji27, hji27⟩ : ∃ j_ : Int, (Int.tmod (wrap64 (a1)) (t154.length : Int)) = j_ := ⟨_, rfl⟩
                  replace H : (if 0 ≤ (ji27) then (if (ji27) ≤ (t154.length : Int) then ((codec_Decode.f kj17 (t154.take ((ji27) : Int).toNat)).bind fun bt162 => ((some (([] : List Int) : List Int)).bind fun y170 => (if y170.length + t154.length < 140737488355328 then ((some (y170 ++ t154 : List Int)).bind fun y173 => (if y173.length + l2.length < 140737488355328 then ((codec_Decode.f kj17 (y173 ++ l2)).bind fun bt179 => (if bt162.2.2.2.2 = 4 then (some ((bt179.2.2.2.2 == 0) == ((l2.length : Int) == 0))) else (some false))) else (none))) else (none)))) else (none)) else (none)) = some r := by first | (rw [hji27] at H; exact H) | (simp only [hji27] at H ⊢; exact H)
                  by_cases c28 : 0 ≤ (ji27)
                  · rw [if_pos c28] at H
                    have c28b0 := eq_true c28
                    have c28b1 : decide (0 ≤ (ji27)) = true := decide_eq_true c28
                    clear c28
                    by_cases c29 : (ji27) ≤ (t154.length : Int)
                    · rw [if_pos c29] at H
                      have c29b0 := eq_true c29
                      have c29b1 : decide ((ji27) ≤ (t154.length : Int)) = true := decide_eq_true c29
                      clear c29
                      obtain ⟨y158, hy158⟩ : ∃ y_ : List Int, y_ = (t154.take ((ji27) : Int).toNat) := ⟨_, rfl⟩
                      replace H : ((codec_Decode.f kj17 y158).bind fun bt162 => ((some (([] : List Int) : List Int)).bind fun y170 => (if y170.length + t154.length < 140737488355328 then ((some (y170 ++ t154 : List Int)).bind fun y173 => (if y173.length + l2.length < 140737488355328 then ((codec_Decode.f kj17 (y173 ++ l2)).bind fun bt179 => (if bt162.2.2.2.2 = 4 then (some ((bt179.2.2.2.2 == 0) == ((l2.length : Int) == 0))) else (some false))) else (none))) else (none)))) = some r := by first | (rw [hy158]; with_reducible exact H) | (have H2_ := (Option.bind_some _ _).symm.trans H; rw [hy158]; with_reducible exact H2_) | (have H2_ := (Option.bind_some _ _).symm.trans H; with_reducible exact H2_) | with_reducible exact H | (rw [hy158]; exact H) | exact H
                      have Ny158 := Aside0.mk hy158
                      clear hy158
                      replace H := Option.bind_eq_some_iff.mp H
                      obtain ⟨⟨t162, t163, t164, t165, t168⟩, A300, H⟩ := H
                      replace H : ((some (([] : List Int) : List Int)).bind fun y170 => (if y170.length + t154.length < 140737488355328 then ((some (y170 ++ t154 : List Int)).bind fun y173 => (if y173.length + l2.length < 140737488355328 then ((codec_Decode.f kj17 (y173 ++ l2)).bind fun bt179 => (if t168 = 4 then (some ((bt179.2.2.2.2 == 0) == ((l2.length : Int) == 0))) else (some false))) else (none))) else (none))) = some r := H
                      have A30 := Aside0.mk A300
                      clear A300
                      obtain ⟨y170, hy170⟩ : ∃ y_ : List Int, y_ = (([] : List Int)) := ⟨_, rfl⟩
                      replace H : (if y170.length + t154.length < 140737488355328 then ((some (y170 ++ t154 : List Int)).bind fun y173 => (if y173.length + l2.length < 140737488355328 then ((codec_Decode.f kj17 (y173 ++ l2)).bind fun bt179 => (if t168 = 4 then (some ((bt179.2.2.2.2 == 0) == ((l2.length : Int) == 0))) else (some false))) else (none))) else (none)) = some r := by first | (rw [hy170]; with_reducible exact H) | (have H2_ := (Option.bind_some _ _).symm.trans H; rw [hy170]; with_reducible exact H2_) | (have H2_ := (Option.bind_some _ _).symm.trans H; with_reducible exact H2_) | with_reducible exact H | (rw [hy170]; exact H) | exact H
                      have Ny170 := Aside0.mk hy170
                      clear hy170
                      by_cases c31 : y170.length + t154.length < 140737488355328
                      · rw [if_pos c31] at H
                        have LMc31 := Aside0.mk c31
                        clear c31
                        obtain ⟨y173, hy173⟩ : ∃ y_ : List Int, y_ = (y170 ++ t154) := ⟨_, rfl⟩
                        replace H : (if y173.length + l2.length < 140737488355328 then ((codec_Decode.f kj17 (y173 ++ l2)).bind fun bt179 => (if t168 = 4 then (some ((bt179.2.2.2.2 == 0) == ((l2.length : Int) == 0))) else (some false))) else (none)) = some r := by first | (rw [hy173]; with_reducible exact H) | (have H2_ := (Option.bind_some _ _).symm.trans H; rw [hy173]; with_reducible exact H2_) | (have H2_ := (Option.bind_some _ _).symm.trans H; with_reducible exact H2_) | with_reducible exact H | (rw [hy173]; exact H) | exact H
                        have Ny173 := Aside0.mk hy173
                        clear hy173
                        by_cases c32 : y173.length + l2.length < 140737488355328
                        · rw [if_pos c32] at H
                          have LMc32 := Aside0.mk c32
                          clear c32
                          obtain ⟨y176, hy176⟩ : ∃ y_ : List Int, y_ = (y173 ++ l2) := ⟨_, rfl⟩
                          replace H : ((codec_Decode.f kj17 y176).bind fun bt179 => (if t168 = 4 then (some ((bt179.2.2.2.2 == 0) == ((l2.length : Int) == 0))) else (some false))) = some r := by first | (rw [hy176]; with_reducible exact H) | (have H2_ := (Option.bind_some _ _).symm.trans H; rw [hy176]; with_reducible exact H2_) | (have H2_ := (Option.bind_some _ _).symm.trans H; with_reducible exact H2_) | with_reducible exact H | (rw [hy176]; exact H) | exact H
                          have Ny176 := Aside0.mk hy176
                          clear hy176
                          replace H := Option.bind_eq_some_iff.mp H
                          obtain ⟨⟨t179, t180, t181, t182, t185⟩, A330, H⟩ := H
                          replace H : (if t168 = 4 then (some ((t185 == 0) == ((l2.length : Int) == 0))) else (some false)) = some r := H
                          have A33 := Aside0.mk A330
                          clear A330
                          by_cases c34 : t168 = 4
                          · rw [if_pos c34] at H
                            have c34b0 : (t168 == 4) = true := beq_iff_eq.mpr c34
                            have c34b1 : (t168 != 4) = false := bne_eq_false_iff_eq.mpr c34
                            clear c34
                            obtain rfl := Option.some.inj H
                            obtain ⟨Ao35, co35, eo35⟩ := Kd.R_slice HO_7.out
                            subst eo35
                            have q36 : ((ji27) : Int) ≤ ((t154.length : Int) : Int) := of_decide_eq_true (by first | (with_reducible assumption) | assumption)
                            obtain ⟨i036, hi036, _, hsz36, _⟩ := info_parts info5
                            have hroom36 : t154.length ≤ co35 := (Kd.R_reads' HO_7.out).2.1
                            have hC36 : Kd.C (Kd.int .u8) _ Ao35 t154.length t154 := (Kd.R_reads' HO_7.out).2.2
                            have hcut36 := cut_to (P := Try.prog) 31 5 .i64 Try.underlying31 hi036 Ao35 t154.length co35 (ji27) (of_decide_eq_true (by first | (with_reducible assumption) | assumption)) q36 hroom36
                            have hr36 := Kd.C_take (m := ((ji27) : Int).toNat) hC36 (by omega)
                            have hy36 : y158.length = ((ji27) : Int).toNat := (by rw [Ny158.out, List.length_take]; omega)
                            rw [← Ny158.out] at hr36
                            rw [← hy36] at hcut36
                            have HR161 := Aside0.mk hr36
                            have HC161 := Aside0.mk (show y158.length ≤ co35 from by omega)
                            clear hr36 hC36 hroom36 hi036 hsz36
                            have KY36 := Aside0.mk hy36
                            clear hy36
                            have KL36 := Aside0.mk (show ((ji27) : Int).toNat ≤ t154.length from by omega)
                            replace q36 := eq_true q36
                            go_wp2_with (first | ((with_reducible refine gate_callee (f := 22) rfl ?_); refine goesL_ (some 46) rfl rfl Try.func22 (by kernel_rfl) rfl #[.slice Ao35 y158.length co35] rfl (by (try simp only [List.map_toArray, List.map_cons, List.map_nil]); first | done | rfl | (simp only [List.length_drop, List.length_take]; rfl)) ?_; (with_reducible refine (codec_Decode.calls kj17 _ _ y158 t162 t163 t164 t165 t168 _ ?side1 ?side2 A30.out).mono ?_); (case side1 => repeat (first | exact (by repeat (first | (with_reducible exact HR161.out) | (with_reducible refine Kd.C_alloc ?_ _) | (with_reducible refine Kd.C_drewN ?_ _) | (with_reducible refine Kd.C_drew ?_) | exact HR161.out)) | (with_reducible refine Kd.C_alloc ?_ _) | (with_reducible refine Kd.C_drewN ?_ _) | (with_reducible refine Kd.C_drew ?_))); (case side2 => exact HC161.out); rintro e w37 ⟨v166, rfl, ho0, hb⟩; refine ⟨_, rfl, ?_⟩; have n0_ := Aside0.mk (Kd.R_below (by (with_reducible repeat (first | apply Kd.R_alloc | apply Kd.R_drewN | apply Kd.R_drew)); exact HO_7.out) hb); have n1_ := Aside0.mk (Kd.R_lower ho0 (below_size (by repeat (first | (with_reducible first | exact HB.out | apply below_alloc | apply pw_below_drewN | apply below_drew1 | refine below_set ?_ GE145.out) | exact HB.out)))); have n2_ := Aside0.mk (blk_below (g := gb145) (o := .cells #[.int .i64 a0_0, .int .i64 a0_1, .string a0_2, .slice A0_3 l0_3.length c0_3] 24 (0, 0)) (by (with_reducible repeat (first | refine blk_drewN ?_ _ | refine blk_drew ?_ | refine blk_alloc ?_ _)); exact BK145.out) hb); have n3_ := Aside0.mk (Kd.C_below (by repeat (first | (with_reducible exact HR161.out) | (with_reducible refine Kd.C_alloc ?_ _) | (with_reducible refine Kd.C_drewN ?_ _) | (with_reducible refine Kd.C_drew ?_) | exact HR161.out)) hb); have n4_ := Aside0.mk (below_step (by repeat (first | (with_reducible first | exact HB.out | apply below_alloc | apply pw_below_drewN | apply below_drew1 | refine below_set ?_ GE145.out) | exact HB.out)) hb); clear HO_7; clear BK145; clear HR161; clear HB; have HO_7 := n0_; have HO167 := n1_; have BK145 := n2_; have HR161 := n3_; have HB := n4_; clear n0_ n1_ n2_ n3_ n4_; (try clear hb); (try clear hb2); (try clear hk); (try clear hi); (try clear ho0)) | ((with_reducible refine gate_dst (N := 9) rfl ?_); (try (refine gate_guard (by rfl) ?_; dsimp only)); refine box_event ?hg (N := 9) ?hd (cs := #[.int .i64 0, .int .i64 0, .string (⟨#[]⟩ : ByteArray), .slice none 0 0]) (t := 29) ?hr ?_; (case hd => rfl); (case hg => rfl); (case hr => first | (go_simp; done) | (go_simp; rfl)); intro gb169 hg w38 hbox hb; have n0_ := Aside0.mk (Kd.R_below (by (with_reducible repeat (first | apply Kd.R_alloc | apply Kd.R_drewN | apply Kd.R_drew)); exact HO_7.out) hb); have n1_ := Aside0.mk (Kd.R_below (Kd.R_elderB (by (with_reducible repeat (first | apply Kd.R_alloc | apply Kd.R_drewN | apply Kd.R_drew)); exact HO167.out) gb169 (Nat.le_of_eq hg.symm)) hb); have n2_ := Aside0.mk (blk_below (g := gb145) (o := .cells #[.int .i64 a0_0, .int .i64 a0_1, .string a0_2, .slice A0_3 l0_3.length c0_3] 24 (0, 0)) (by (with_reducible repeat (first | refine blk_drewN ?_ _ | refine blk_drew ?_ | refine blk_alloc ?_ _)); exact BK145.out) hb); have n3_ := Aside0.mk (Kd.C_below (by repeat (first | (with_reducible exact HR161.out) | (with_reducible refine Kd.C_alloc ?_ _) | (with_reducible refine Kd.C_drewN ?_ _) | (with_reducible refine Kd.C_drew ?_) | exact HR161.out)) hb); have n4_ := Aside0.mk (below_step (by repeat (first | (with_reducible first | exact HB.out | apply below_alloc | apply pw_below_drewN | apply below_drew1 | refine below_set ?_ GE145.out) | exact HB.out)) hb); have n5_ := Aside0.mk (hbox); have n6_ := Aside0.mk ((by rw [hg]; exact (below_size (by repeat (first | (with_reducible first | exact HB.out | apply below_alloc | apply pw_below_drewN | apply below_drew1 | refine below_set ?_ GE145.out) | exact HB.out))) : w.heap.size ≤ gb169)); have n7_ := Aside0.mk ((by rw [hg]; exact (below_size (by repeat (first | (with_reducible first | exact HB.out | apply below_alloc | apply pw_below_drewN | apply below_drew1 | refine below_set ?_ GE145.out) | exact HB.out))) : w.heap.size ≤ gb169)); have n8_ := Aside0.mk ((by rw [hg]; exact Nat.ne_of_lt (blk_lt (g := gb145) (o := .cells #[.int .i64 a0_0, .int .i64 a0_1, .string a0_2, .slice A0_3 l0_3.length c0_3] 24 (0, 0)) (by (with_reducible repeat (first | refine blk_drewN ?_ _ | refine blk_drew ?_ | refine blk_alloc ?_ _)); exact BK145.out)) : gb145 ≠ gb169)); have n9_ := Aside0.mk ((by rw [hg]; exact Nat.ne_of_gt (blk_lt (g := gb145) (o := .cells #[.int .i64 a0_0, .int .i64 a0_1, .string a0_2, .slice A0_3 l0_3.length c0_3] 24 (0, 0)) (by (with_reducible repeat (first | refine blk_drewN ?_ _ | refine blk_drew ?_ | refine blk_alloc ?_ _)); exact BK145.out)) : gb169 ≠ gb145)); clear HO_7; clear HO167; clear BK145; clear HR161; clear HB; have HO_7 := n0_; have HO167 := n1_; have BK145 := n2_; have HR161 := n3_; have HB := n4_; have BK169 := n5_; have GW169 := n6_; have GE169 := n7_; have NB145_169 := n8_; have NB169_145 := n9_; clear n0_ n1_ n2_ n3_ n4_ n5_ n6_ n7_ n8_ n9_; clear hb hbox hg; have hnb39 := NB169_145.out; have hnc39 := NB145_169.out; have hcz40_0 : w38.cell? ⟨gb169, 0, none⟩ = some (.int .i64 0) := (blk_cell BK169.out 0).trans rfl; have hcz40_1 : w38.cell? ⟨gb169, 1, none⟩ = some (.int .i64 0) := (blk_cell BK169.out 1).trans rfl; have hcz40_2 : w38.cell? ⟨gb169, 2, none⟩ = some (.string (⟨#[]⟩ : ByteArray)) := (blk_cell BK169.out 2).trans rfl; have hcz40_3 : w38.cell? ⟨gb169, 3, none⟩ = some (.slice none 0 0) := (blk_cell BK169.out 3).trans rfl; have hfz40_0 := blk_frozen BK169.out 0; have hfz40_1 := blk_frozen BK169.out 1; have hfz40_2 := blk_frozen BK169.out 2; have hfz40_3 := blk_frozen BK169.out 3; obtain ⟨Ao41, co41, eo41⟩ := Kd.R_slice HO167.out; subst eo41) | ((with_reducible refine gate_dst (N := 50) rfl ?_); (try (refine gate_guard (by rfl) ?_; dsimp only)); refine Kd.R_lit (Kd.int .u8) _ 5 ?hg (N := 50) ?hd (xs := ([] : List Int)) (inner := []) (ok := fun _ => True) (okp := fun _ => True) ?hr ?hp (fun _ hk => hk) trivial (Below.refl _ _) (Nat.le_refl _) (by simp) ?_; (case hd => rfl); (case hg => rfl); (case hr => first | (go_simp; done) | (go_simp; rfl)); (case hp => exact (Reps.none _ _)); intro v171 w42 ho43 hb hg_ hnew_; clear hg_ hnew_; (first | rw [← Ny170.out] at ho43 | (simp only [Int.reduceToNat] at ho43; rw [← Ny170.out] at ho43)); have n0_ := Aside0.mk (Kd.R_elder' (by (with_reducible repeat (first | apply Kd.R_alloc | apply Kd.R_drewN | apply Kd.R_drew)); exact (Kd.R_mono (Kd.R_far (p := ⟨gb169, 3, none⟩) (Kd.R_far (p := ⟨gb169, 2, none⟩) (Kd.R_far (p := ⟨gb169, 1, none⟩) (Kd.R_far (p := ⟨gb169, 0, none⟩) (Kd.R_types HO_7.out BK169.out (by decide)) (fun _ hk => hk.2) (.int .i64 t162)) (fun _ hk => hk.2) (.int .i64 t163)) (fun _ hk => hk.2) (.string t164)) (fun _ hk => hk.2) (.slice Ao41 t165.length co41)) (fun _ h_ => h_.1))) (Kd.R_base ho43) hb); have n1_ := Aside0.mk (Kd.R_below (by (with_reducible repeat (first | apply Kd.R_alloc | apply Kd.R_drewN | apply Kd.R_drew)); exact (Kd.R_mono (Kd.R_far (p := ⟨gb169, 3, none⟩) (Kd.R_far (p := ⟨gb169, 2, none⟩) (Kd.R_far (p := ⟨gb169, 1, none⟩) (Kd.R_far (p := ⟨gb169, 0, none⟩) (Kd.R_mono HO167.out (fun k_ hk => (⟨hk, hk.2⟩ : _ ∧ k_ ≠ gb169))) (fun _ hk => hk.2) (.int .i64 t162)) (fun _ hk => hk.2) (.int .i64 t163)) (fun _ hk => hk.2) (.string t164)) (fun _ hk => hk.2) (.slice Ao41 t165.length co41)) (fun _ h_ => h_.1))) hb); have n2_ := Aside0.mk (Kd.R_lower (Kd.R_new' ho43 (Kd.R_lt (by (with_reducible repeat (first | apply Kd.R_alloc | apply Kd.R_drewN | apply Kd.R_drew)); exact (Kd.R_mono (Kd.R_far (p := ⟨gb169, 3, none⟩) (Kd.R_far (p := ⟨gb169, 2, none⟩) (Kd.R_far (p := ⟨gb169, 1, none⟩) (Kd.R_far (p := ⟨gb169, 0, none⟩) (Kd.R_types HO_7.out BK169.out (by decide)) (fun _ hk => hk.2) (.int .i64 t162)) (fun _ hk => hk.2) (.int .i64 t163)) (fun _ hk => hk.2) (.string t164)) (fun _ hk => hk.2) (.slice Ao41 t165.length co41)) (fun _ h_ => h_.1))))) (below_size (by repeat (first | (with_reducible first | exact HB.out | apply below_alloc | apply pw_below_drewN | apply below_drew1 | refine below_set ?_ GE145.out | refine below_set ?_ GE169.out) | exact HB.out)))); have n3_ := Aside0.mk (blk_below (g := gb145) (o := .cells #[.int .i64 a0_0, .int .i64 a0_1, .string a0_2, .slice A0_3 l0_3.length c0_3] 24 (0, 0)) (by (with_reducible repeat (first | refine blk_drewN ?_ _ | refine blk_drew ?_ | refine blk_alloc ?_ _)); refine blk_far ?_ NB145_169.out _; (with_reducible repeat (first | refine blk_drewN ?_ _ | refine blk_drew ?_ | refine blk_alloc ?_ _)); refine blk_far ?_ NB145_169.out _; (with_reducible repeat (first | refine blk_drewN ?_ _ | refine blk_drew ?_ | refine blk_alloc ?_ _)); refine blk_far ?_ NB145_169.out _; (with_reducible repeat (first | refine blk_drewN ?_ _ | refine blk_drew ?_ | refine blk_alloc ?_ _)); refine blk_far ?_ NB145_169.out _; (with_reducible repeat (first | refine blk_drewN ?_ _ | refine blk_drew ?_ | refine blk_alloc ?_ _)); exact BK145.out) hb); have n4_ := Aside0.mk (blk_below (g := gb169) (o := .cells #[.int .i64 t162, .int .i64 t163, .string t164, .slice Ao41 t165.length co41] 29 (0, 0)) (by (with_reducible repeat (first | refine blk_drewN ?_ _ | refine blk_drew ?_ | refine blk_alloc ?_ _)); refine blk_put (cs := #[.int .i64 t162, .int .i64 t163, .string t164, .slice none 0 0]) ?_ 3 _ rfl; (with_reducible repeat (first | refine blk_drewN ?_ _ | refine blk_drew ?_ | refine blk_alloc ?_ _)); refine blk_put (cs := #[.int .i64 t162, .int .i64 t163, .string (⟨#[]⟩ : ByteArray), .slice none 0 0]) ?_ 2 _ rfl; (with_reducible repeat (first | refine blk_drewN ?_ _ | refine blk_drew ?_ | refine blk_alloc ?_ _)); refine blk_put (cs := #[.int .i64 t162, .int .i64 0, .string (⟨#[]⟩ : ByteArray), .slice none 0 0]) ?_ 1 _ rfl; (with_reducible repeat (first | refine blk_drewN ?_ _ | refine blk_drew ?_ | refine blk_alloc ?_ _)); refine blk_put (cs := #[.int .i64 0, .int .i64 0, .string (⟨#[]⟩ : ByteArray), .slice none 0 0]) ?_ 0 _ rfl; (with_reducible repeat (first | refine blk_drewN ?_ _ | refine blk_drew ?_ | refine blk_alloc ?_ _)); exact BK169.out) hb); have n5_ := Aside0.mk (below_step (by repeat (first | (with_reducible first | exact HB.out | apply below_alloc | apply pw_below_drewN | apply below_drew1 | refine below_set ?_ GE145.out | refine below_set ?_ GE169.out) | exact HB.out)) hb); clear HO_7; clear HO167; clear BK145; clear BK169; clear HB; have HO_7 := n0_; have HO167 := n1_; have HO172 := n2_; have BK145 := n3_; have BK169 := n4_; have HB := n5_; clear n0_ n1_ n2_ n3_ n4_ n5_; clear hb ho43) | ((with_reducible refine gate_builtin (b := .append) (xs := #[.tmp 50, .tmp 51]) rfl ?_); (try (refine gate_guard (by rfl) ?_; dsimp only)); at_builtin; refine Kd.R_append_rows (Kd.int .u8) (w0 := w) w.heap.size rfl (.tmp 50) (.tmp 51) 31 5 (.int .u8 0) 1 rfl Try.underlying31 info5 rfl (by decide) (by omega) v171 y170 t154 _ _ _ (fun k_ => some k_ ≠ (.slice Ao35 t154.length co35 : Value).ownBlock) (fun _ => False) rfl rfl ?aO ?aR (fun _ _ h => h) (fun _ h => h.elim) ?aF ?aB ?aS ?aL ?_; (case aR => repeat (first | exact (Kd.R_reads' HO_7.out).2.2 | (with_reducible refine Kd.C_alloc ?_ _) | (with_reducible refine Kd.C_drewN ?_ _) | (with_reducible refine Kd.C_drew ?_))); (case aB => exact (by repeat (first | (with_reducible first | exact HB.out | apply below_alloc | apply pw_below_drewN | apply below_drew1 | refine below_set ?_ GE145.out | refine below_set ?_ GE169.out) | exact HB.out))); (case aF => exact (fun k_ hk => Kd.fresh' (Kd.R_lt (by (with_reducible repeat (first | apply Kd.R_alloc | apply Kd.R_drewN | apply Kd.R_drew)); exact HO_7.out)) k_ hk)); (case aO => exact (by (with_reducible repeat (first | apply Kd.R_alloc | apply Kd.R_drewN | apply Kd.R_drew)); exact Kd.R_mono HO172.out (fun _ hk => hk.2))); (case aS => exact (below_size (by repeat (first | (with_reducible first | exact HB.out | apply below_alloc | apply pw_below_drewN | apply below_drew1 | refine below_set ?_ GE145.out | refine below_set ?_ GE169.out) | exact HB.out)))); (case aL => have := LMc31.out; omega); intro v174 w44 ho hb hg hat; rw [← Ny173.out] at ho; have n0_ := Aside0.mk (Kd.R_after (ok := (fun _ => True)) (by (with_reducible repeat (first | apply Kd.R_alloc | apply Kd.R_drewN | apply Kd.R_drew)); exact HO_7.out) hg hat); have n1_ := Aside0.mk (blk_grown (g := gb145) (o := .cells #[.int .i64 a0_0, .int .i64 a0_1, .string a0_2, .slice A0_3 l0_3.length c0_3] 24 (0, 0)) (by (with_reducible repeat (first | refine blk_drewN ?_ _ | refine blk_drew ?_ | refine blk_alloc ?_ _)); exact BK145.out) hg (Kd.R_ne HO172.out BK145.out (by decide))); have n2_ := Aside0.mk (Kd.R_over' (by (with_reducible repeat (first | apply Kd.R_alloc | apply Kd.R_drewN | apply Kd.R_drew)); exact HO167.out) (Kd.R_typed (by (with_reducible repeat (first | apply Kd.R_alloc | apply Kd.R_drewN | apply Kd.R_drew)); exact HO172.out)) (by decide) hg); have n3_ := Aside0.mk (blk_grown (g := gb169) (o := .cells #[.int .i64 t162, .int .i64 t163, .string t164, .slice Ao41 t165.length co41] 29 (0, 0)) (by (with_reducible repeat (first | refine blk_drewN ?_ _ | refine blk_drew ?_ | refine blk_alloc ?_ _)); exact BK169.out) hg (Kd.R_ne HO172.out BK169.out (by decide))); have n4_ := Aside0.mk (hb); have n5_ := Aside0.mk ((show Kd.C (Kd.int .u8) w44 Ao35 y158.length y158 from by rw [Ny158.out]; exact Kd.C_take (m := ((ji27) : Int).toNat) ((Kd.R_reads' (Kd.R_after (ok := (fun _ => True)) (by (with_reducible repeat (first | apply Kd.R_alloc | apply Kd.R_drewN | apply Kd.R_drew)); exact HO_7.out) hg hat)).2.2) KL36.out)); have n6_ := Aside0.mk (ho); clear HO_7; clear BK145; clear HO167; clear BK169; clear HB; clear HR161; clear HO172; have HO_7 := n0_; have BK145 := n1_; have HO167 := n2_; have BK169 := n3_; have HB := n4_; have HR161 := n5_; have HO175 := n6_; clear n0_ n1_ n2_ n3_ n4_ n5_ n6_; clear ho hb hg hat) | ((with_reducible refine gate_builtin (b := .append) (xs := #[.tmp 52, .tmp 53]) rfl ?_); (try (refine gate_guard (by rfl) ?_; dsimp only)); at_builtin; refine Kd.R_append_rows (Kd.int .u8) (w0 := w) w.heap.size rfl (.tmp 52) (.tmp 53) 31 5 (.int .u8 0) 1 rfl Try.underlying31 info5 rfl (by decide) (by omega) v174 y173 l2 _ _ _ (fun k_ => some k_ ≠ (.slice Ao35 t154.length co35 : Value).ownBlock) (fun _ => False) rfl rfl ?aO ?aR (fun _ _ h => h) (fun _ h => h.elim) ?aF ?aB ?aS ?aL ?_; (case aR => repeat (first | exact (Kd.C_below HR2.out HB.out) | (with_reducible refine Kd.C_alloc ?_ _) | (with_reducible refine Kd.C_drewN ?_ _) | (with_reducible refine Kd.C_drew ?_))); (case aB => exact (by repeat (first | (with_reducible first | exact HB.out | apply below_alloc | apply pw_below_drewN | apply below_drew1 | refine below_set ?_ GE145.out | refine below_set ?_ GE169.out) | exact HB.out))); (case aF => exact (fun k_ hk => Kd.fresh' (Kd.R_lt (by (with_reducible repeat (first | apply Kd.R_alloc | apply Kd.R_drewN | apply Kd.R_drew)); exact HO_7.out)) k_ hk)); (case aO => exact (by (with_reducible repeat (first | apply Kd.R_alloc | apply Kd.R_drewN | apply Kd.R_drew)); exact HO175.out)); (case aS => exact (below_size (by repeat (first | (with_reducible first | exact HB.out | apply below_alloc | apply pw_below_drewN | apply below_drew1 | refine below_set ?_ GE145.out | refine below_set ?_ GE169.out) | exact HB.out)))); (case aL => have := LMc32.out; omega); intro v177 w45 ho hb hg hat; rw [← Ny176.out] at ho; have n0_ := Aside0.mk (Kd.R_after (ok := (fun _ => True)) (by (with_reducible repeat (first | apply Kd.R_alloc | apply Kd.R_drewN | apply Kd.R_drew)); exact HO_7.out) hg hat); have n1_ := Aside0.mk (blk_grown (g := gb145) (o := .cells #[.int .i64 a0_0, .int .i64 a0_1, .string a0_2, .slice A0_3 l0_3.length c0_3] 24 (0, 0)) (by (with_reducible repeat (first | refine blk_drewN ?_ _ | refine blk_drew ?_ | refine blk_alloc ?_ _)); exact BK145.out) hg (Kd.R_ne HO175.out BK145.out (by decide))); have n2_ := Aside0.mk (Kd.R_over' (by (with_reducible repeat (first | apply Kd.R_alloc | apply Kd.R_drewN | apply Kd.R_drew)); exact HO167.out) (Kd.R_typed (by (with_reducible repeat (first | apply Kd.R_alloc | apply Kd.R_drewN | apply Kd.R_drew)); exact HO175.out)) (by decide) hg); have n3_ := Aside0.mk (blk_grown (g := gb169) (o := .cells #[.int .i64 t162, .int .i64 t163, .string t164, .slice Ao41 t165.length co41] 29 (0, 0)) (by (with_reducible repeat (first | refine blk_drewN ?_ _ | refine blk_drew ?_ | refine blk_alloc ?_ _)); exact BK169.out) hg (Kd.R_ne HO175.out BK169.out (by decide))); have n4_ := Aside0.mk (hb); have n5_ := Aside0.mk ((show Kd.C (Kd.int .u8) w45 Ao35 y158.length y158 from by rw [Ny158.out]; exact Kd.C_take (m := ((ji27) : Int).toNat) ((Kd.R_reads' (Kd.R_after (ok := (fun _ => True)) (by (with_reducible repeat (first | apply Kd.R_alloc | apply Kd.R_drewN | apply Kd.R_drew)); exact HO_7.out) hg hat)).2.2) KL36.out)); have n6_ := Aside0.mk (ho); clear HO_7; clear BK145; clear HO167; clear BK169; clear HB; clear HR161; clear HO175; have HO_7 := n0_; have BK145 := n1_; have HO167 := n2_; have BK169 := n3_; have HB := n4_; have HR161 := n5_; have HO178 := n6_; clear n0_ n1_ n2_ n3_ n4_ n5_ n6_; clear ho hb hg hat; obtain ⟨Ao46, co46, eo46⟩ := Kd.R_slice HO178.out; subst eo46) | ((with_reducible refine gate_callee (f := 22) rfl ?_); refine goesL_ (some 55) rfl rfl Try.func22 (by kernel_rfl) rfl #[.slice Ao46 y176.length co46] rfl (by (try simp only [List.map_toArray, List.map_cons, List.map_nil]); first | done | rfl | (simp only [List.length_drop, List.length_take]; rfl)) ?_; (with_reducible refine (codec_Decode.calls kj17 _ _ y176 t179 t180 t181 t182 t185 _ ?side1 ?side2 A33.out).mono ?_); (case side1 => repeat (first | exact (Kd.R_reads' HO178.out).2.2 | (with_reducible refine Kd.C_alloc ?_ _) | (with_reducible refine Kd.C_drewN ?_ _) | (with_reducible refine Kd.C_drew ?_))); (case side2 => exact (Kd.R_reads' HO178.out).2.1); rintro e w47 ⟨v183, rfl, ho0, hb⟩; refine ⟨_, rfl, ?_⟩; have n0_ := Aside0.mk (Kd.R_below (by (with_reducible repeat (first | apply Kd.R_alloc | apply Kd.R_drewN | apply Kd.R_drew)); exact HO_7.out) hb); have n1_ := Aside0.mk (Kd.R_elder' (by (with_reducible repeat (first | apply Kd.R_alloc | apply Kd.R_drewN | apply Kd.R_drew)); exact HO167.out) (Kd.R_base ho0) hb); have n2_ := Aside0.mk (Kd.R_below (by (with_reducible repeat (first | apply Kd.R_alloc | apply Kd.R_drewN | apply Kd.R_drew)); exact HO178.out) hb); have n3_ := Aside0.mk (Kd.R_lower (Kd.R_newB (Kd.R_new' ho0 (Kd.R_lt (by (with_reducible repeat (first | apply Kd.R_alloc | apply Kd.R_drewN | apply Kd.R_drew)); exact HO167.out))) (g := gb169) (o := .cells #[.int .i64 t162, .int .i64 t163, .string t164, .slice Ao41 t165.length co41] 29 (0, 0)) (by (with_reducible repeat (first | refine blk_drewN ?_ _ | refine blk_drew ?_ | refine blk_alloc ?_ _)); exact BK169.out)) (below_size (by repeat (first | (with_reducible first | exact HB.out | apply below_alloc | apply pw_below_drewN | apply below_drew1 | refine below_set ?_ GE145.out | refine below_set ?_ GE169.out) | exact HB.out)))); have n4_ := Aside0.mk (blk_below (g := gb145) (o := .cells #[.int .i64 a0_0, .int .i64 a0_1, .string a0_2, .slice A0_3 l0_3.length c0_3] 24 (0, 0)) (by (with_reducible repeat (first | refine blk_drewN ?_ _ | refine blk_drew ?_ | refine blk_alloc ?_ _)); exact BK145.out) hb); have n5_ := Aside0.mk (blk_below (g := gb169) (o := .cells #[.int .i64 t162, .int .i64 t163, .string t164, .slice Ao41 t165.length co41] 29 (0, 0)) (by (with_reducible repeat (first | refine blk_drewN ?_ _ | refine blk_drew ?_ | refine blk_alloc ?_ _)); exact BK169.out) hb); have n6_ := Aside0.mk (Kd.C_below (by repeat (first | (with_reducible exact HR161.out) | (with_reducible refine Kd.C_alloc ?_ _) | (with_reducible refine Kd.C_drewN ?_ _) | (with_reducible refine Kd.C_drew ?_) | exact HR161.out)) hb); have n7_ := Aside0.mk (below_step (by repeat (first | (with_reducible first | exact HB.out | apply below_alloc | apply pw_below_drewN | apply below_drew1 | refine below_set ?_ GE145.out | refine below_set ?_ GE169.out) | exact HB.out)) hb); clear HO_7; clear HO167; clear HO178; clear BK145; clear BK169; clear HR161; clear HB; have HO_7 := n0_; have HO167 := n1_; have HO178 := n2_; have HO184 := n3_; have BK145 := n4_; have BK169 := n5_; have HR161 := n6_; have HB := n7_; clear n0_ n1_ n2_ n3_ n4_ n5_ n6_ n7_; (try clear hb); (try clear hb2); (try clear hk); (try clear hi); (try clear ho0)) | ((with_reducible refine gate_dst (N := 11) rfl ?_); (try (refine gate_guard (by rfl) ?_; dsimp only)); refine box_event ?hg (N := 11) ?hd (cs := #[.int .i64 0, .int .i64 0, .string (⟨#[]⟩ : ByteArray), .slice none 0 0]) (t := 29) ?hr ?_; (case hd => rfl); (case hg => rfl); (case hr => first | (go_simp; done) | (go_simp; rfl)); intro gb186 hg w48 hbox hb; have n0_ := Aside0.mk (Kd.R_below (by (with_reducible repeat (first | apply Kd.R_alloc | apply Kd.R_drewN | apply Kd.R_drew)); exact HO_7.out) hb); have n1_ := Aside0.mk (Kd.R_below (Kd.R_elderB (by (with_reducible repeat (first | apply Kd.R_alloc | apply Kd.R_drewN | apply Kd.R_drew)); exact HO167.out) gb186 (Nat.le_of_eq hg.symm)) hb); have n2_ := Aside0.mk (Kd.R_below (by (with_reducible repeat (first | apply Kd.R_alloc | apply Kd.R_drewN | apply Kd.R_drew)); exact HO178.out) hb); have n3_ := Aside0.mk (Kd.R_below (Kd.R_elderB (by (with_reducible repeat (first | apply Kd.R_alloc | apply Kd.R_drewN | apply Kd.R_drew)); exact HO184.out) gb186 (Nat.le_of_eq hg.symm)) hb); have n4_ := Aside0.mk (blk_below (g := gb145) (o := .cells #[.int .i64 a0_0, .int .i64 a0_1, .string a0_2, .slice A0_3 l0_3.length c0_3] 24 (0, 0)) (by (with_reducible repeat (first | refine blk_drewN ?_ _ | refine blk_drew ?_ | refine blk_alloc ?_ _)); exact BK145.out) hb); have n5_ := Aside0.mk (blk_below (g := gb169) (o := .cells #[.int .i64 t162, .int .i64 t163, .string t164, .slice Ao41 t165.length co41] 29 (0, 0)) (by (with_reducible repeat (first | refine blk_drewN ?_ _ | refine blk_drew ?_ | refine blk_alloc ?_ _)); exact BK169.out) hb); have n6_ := Aside0.mk (Kd.C_below (by repeat (first | (with_reducible exact HR161.out) | (with_reducible refine Kd.C_alloc ?_ _) | (with_reducible refine Kd.C_drewN ?_ _) | (with_reducible refine Kd.C_drew ?_) | exact HR161.out)) hb); have n7_ := Aside0.mk (below_step (by repeat (first | (with_reducible first | exact HB.out | apply below_alloc | apply pw_below_drewN | apply below_drew1 | refine below_set ?_ GE145.out | refine below_set ?_ GE169.out) | exact HB.out)) hb); have n8_ := Aside0.mk (hbox); have n9_ := Aside0.mk ((by rw [hg]; exact (below_size (by repeat (first | (with_reducible first | exact HB.out | apply below_alloc | apply pw_below_drewN | apply below_drew1 | refine below_set ?_ GE145.out | refine below_set ?_ GE169.out) | exact HB.out))) : w.heap.size ≤ gb186)); have n10_ := Aside0.mk ((by rw [hg]; exact (below_size (by repeat (first | (with_reducible first | exact HB.out | apply below_alloc | apply pw_below_drewN | apply below_drew1 | refine below_set ?_ GE145.out | refine below_set ?_ GE169.out) | exact HB.out))) : w.heap.size ≤ gb186)); have n11_ := Aside0.mk ((by rw [hg]; exact Nat.ne_of_lt (blk_lt (g := gb145) (o := .cells #[.int .i64 a0_0, .int .i64 a0_1, .string a0_2, .slice A0_3 l0_3.length c0_3] 24 (0, 0)) (by (with_reducible repeat (first | refine blk_drewN ?_ _ | refine blk_drew ?_ | refine blk_alloc ?_ _)); exact BK145.out)) : gb145 ≠ gb186)); have n12_ := Aside0.mk ((by rw [hg]; exact Nat.ne_of_gt (blk_lt (g := gb145) (o := .cells #[.int .i64 a0_0, .int .i64 a0_1, .string a0_2, .slice A0_3 l0_3.length c0_3] 24 (0, 0)) (by (with_reducible repeat (first | refine blk_drewN ?_ _ | refine blk_drew ?_ | refine blk_alloc ?_ _)); exact BK145.out)) : gb186 ≠ gb145)); have n13_ := Aside0.mk ((by rw [hg]; exact Nat.ne_of_lt (blk_lt (g := gb169) (o := .cells #[.int .i64 t162, .int .i64 t163, .string t164, .slice Ao41 t165.length co41] 29 (0, 0)) (by (with_reducible repeat (first | refine blk_drewN ?_ _ | refine blk_drew ?_ | refine blk_alloc ?_ _)); exact BK169.out)) : gb169 ≠ gb186)); have n14_ := Aside0.mk ((by rw [hg]; exact Nat.ne_of_gt (blk_lt (g := gb169) (o := .cells #[.int .i64 t162, .int .i64 t163, .string t164, .slice Ao41 t165.length co41] 29 (0, 0)) (by (with_reducible repeat (first | refine blk_drewN ?_ _ | refine blk_drew ?_ | refine blk_alloc ?_ _)); exact BK169.out)) : gb186 ≠ gb169)); clear HO_7; clear HO167; clear HO178; clear HO184; clear BK145; clear BK169; clear HR161; clear HB; have HO_7 := n0_; have HO167 := n1_; have HO178 := n2_; have HO184 := n3_; have BK145 := n4_; have BK169 := n5_; have HR161 := n6_; have HB := n7_; have BK186 := n8_; have GW186 := n9_; have GE186 := n10_; have NB145_186 := n11_; have NB186_145 := n12_; have NB169_186 := n13_; have NB186_169 := n14_; clear n0_ n1_ n2_ n3_ n4_ n5_ n6_ n7_ n8_ n9_ n10_ n11_ n12_ n13_ n14_; clear hb hbox hg; have hnb49 := NB186_145.out; have hnc49 := NB145_186.out; have hnb50 := NB186_169.out; have hnc50 := NB169_186.out; have hcz51_0 : w48.cell? ⟨gb186, 0, none⟩ = some (.int .i64 0) := (blk_cell BK186.out 0).trans rfl; have hcz51_1 : w48.cell? ⟨gb186, 1, none⟩ = some (.int .i64 0) := (blk_cell BK186.out 1).trans rfl; have hcz51_2 : w48.cell? ⟨gb186, 2, none⟩ = some (.string (⟨#[]⟩ : ByteArray)) := (blk_cell BK186.out 2).trans rfl; have hcz51_3 : w48.cell? ⟨gb186, 3, none⟩ = some (.slice none 0 0) := (blk_cell BK186.out 3).trans rfl; have hfz51_0 := blk_frozen BK186.out 0; have hfz51_1 := blk_frozen BK186.out 1; have hfz51_2 := blk_frozen BK186.out 2; have hfz51_3 := blk_frozen BK186.out 3; obtain ⟨Ao52, co52, eo52⟩ := Kd.R_slice HO184.out; subst eo52))
                            go_ret
                            exact ⟨by first | rfl | (simp [errW_none, errW_some] <;> rfl) | (simp only [← hji27]; first | rfl | (simp [errW_none, errW_some] <;> rfl)) | (simp [*, errW_none, errW_some] <;> rfl), by repeat (first | (with_reducible first | exact HB.out | apply below_alloc | apply pw_below_drewN | apply below_drew1 | refine below_set ?_ GE145.out | refine below_set ?_ GE169.out | refine below_set ?_ GE186.out) | exact HB.out)⟩
                          · rw [if_neg c34] at H
                            have c34b0 : (t168 == 4) = false := beq_eq_false_iff_ne.mpr c34
                            have c34b1 : (t168 != 4) = true := bne_iff_ne.mpr c34
                            obtain rfl := Option.some.inj H
                            obtain ⟨Ao53, co53, eo53⟩ := Kd.R_slice HO_7.out
                            subst eo53
                            have q54 : ((ji27) : Int) ≤ ((t154.length : Int) : Int) := of_decide_eq_true (by first | (with_reducible assumption) | assumption)
                            obtain ⟨i054, hi054, _, hsz54, _⟩ := info_parts info5
                            have hroom54 : t154.length ≤ co53 := (Kd.R_reads' HO_7.out).2.1
                            have hC54 : Kd.C (Kd.int .u8) _ Ao53 t154.length t154 := (Kd.R_reads' HO_7.out).2.2
                            have hcut54 := cut_to (P := Try.prog) 31 5 .i64 Try.underlying31 hi054 Ao53 t154.length co53 (ji27) (of_decide_eq_true (by first | (with_reducible assumption) | assumption)) q54 hroom54
                            have hr54 := Kd.C_take (m := ((ji27) : Int).toNat) hC54 (by omega)
                            have hy54 : y158.length = ((ji27) : Int).toNat := (by rw [Ny158.out, List.length_take]; omega)
                            rw [← Ny158.out] at hr54
                            rw [← hy54] at hcut54
                            have HR161 := Aside0.mk hr54
                            have HC161 := Aside0.mk (show y158.length ≤ co53 from by omega)
                            clear hr54 hC54 hroom54 hi054 hsz54
                            have KY54 := Aside0.mk hy54
                            clear hy54
                            have KL54 := Aside0.mk (show ((ji27) : Int).toNat ≤ t154.length from by omega)
                            replace q54 := eq_true q54
                            go_wp2_with (first | ((with_reducible refine gate_callee (f := 22) rfl ?_); refine goesL_ (some 46) rfl rfl Try.func22 (by kernel_rfl) rfl #[.slice Ao53 y158.length co53] rfl (by (try simp only [List.map_toArray, List.map_cons, List.map_nil]); first | done | rfl | (simp only [List.length_drop, List.length_take]; rfl)) ?_; (with_reducible refine (codec_Decode.calls kj17 _ _ y158 t162 t163 t164 t165 t168 _ ?side1 ?side2 A30.out).mono ?_); (case side1 => repeat (first | exact (by repeat (first | (with_reducible exact HR161.out) | (with_reducible refine Kd.C_alloc ?_ _) | (with_reducible refine Kd.C_drewN ?_ _) | (with_reducible refine Kd.C_drew ?_) | exact HR161.out)) | (with_reducible refine Kd.C_alloc ?_ _) | (with_reducible refine Kd.C_drewN ?_ _) | (with_reducible refine Kd.C_drew ?_))); (case side2 => exact HC161.out); rintro e w55 ⟨v166, rfl, ho0, hb⟩; refine ⟨_, rfl, ?_⟩; have n0_ := Aside0.mk (Kd.R_below (by (with_reducible repeat (first | apply Kd.R_alloc | apply Kd.R_drewN | apply Kd.R_drew)); exact HO_7.out) hb); have n1_ := Aside0.mk (Kd.R_lower ho0 (below_size (by repeat (first | (with_reducible first | exact HB.out | apply below_alloc | apply pw_below_drewN | apply below_drew1 | refine below_set ?_ GE145.out) | exact HB.out)))); have n2_ := Aside0.mk (blk_below (g := gb145) (o := .cells #[.int .i64 a0_0, .int .i64 a0_1, .string a0_2, .slice A0_3 l0_3.length c0_3] 24 (0, 0)) (by (with_reducible repeat (first | refine blk_drewN ?_ _ | refine blk_drew ?_ | refine blk_alloc ?_ _)); exact BK145.out) hb); have n3_ := Aside0.mk (Kd.C_below (by repeat (first | (with_reducible exact HR161.out) | (with_reducible refine Kd.C_alloc ?_ _) | (with_reducible refine Kd.C_drewN ?_ _) | (with_reducible refine Kd.C_drew ?_) | exact HR161.out)) hb); have n4_ := Aside0.mk (below_step (by repeat (first | (with_reducible first | exact HB.out | apply below_alloc | apply pw_below_drewN | apply below_drew1 | refine below_set ?_ GE145.out) | exact HB.out)) hb); clear HO_7; clear BK145; clear HR161; clear HB; have HO_7 := n0_; have HO167 := n1_; have BK145 := n2_; have HR161 := n3_; have HB := n4_; clear n0_ n1_ n2_ n3_ n4_; (try clear hb); (try clear hb2); (try clear hk); (try clear hi); (try clear ho0)) | ((with_reducible refine gate_dst (N := 9) rfl ?_); (try (refine gate_guard (by rfl) ?_; dsimp only)); refine box_event ?hg (N := 9) ?hd (cs := #[.int .i64 0, .int .i64 0, .string (⟨#[]⟩ : ByteArray), .slice none 0 0]) (t := 29) ?hr ?_; (case hd => rfl); (case hg => rfl); (case hr => first | (go_simp; done) | (go_simp; rfl)); intro gb169 hg w56 hbox hb; have n0_ := Aside0.mk (Kd.R_below (by (with_reducible repeat (first | apply Kd.R_alloc | apply Kd.R_drewN | apply Kd.R_drew)); exact HO_7.out) hb); have n1_ := Aside0.mk (Kd.R_below (Kd.R_elderB (by (with_reducible repeat (first | apply Kd.R_alloc | apply Kd.R_drewN | apply Kd.R_drew)); exact HO167.out) gb169 (Nat.le_of_eq hg.symm)) hb); have n2_ := Aside0.mk (blk_below (g := gb145) (o := .cells #[.int .i64 a0_0, .int .i64 a0_1, .string a0_2, .slice A0_3 l0_3.length c0_3] 24 (0, 0)) (by (with_reducible repeat (first | refine blk_drewN ?_ _ | refine blk_drew ?_ | refine blk_alloc ?_ _)); exact BK145.out) hb); have n3_ := Aside0.mk (Kd.C_below (by repeat (first | (with_reducible exact HR161.out) | (with_reducible refine Kd.C_alloc ?_ _) | (with_reducible refine Kd.C_drewN ?_ _) | (with_reducible refine Kd.C_drew ?_) | exact HR161.out)) hb); have n4_ := Aside0.mk (below_step (by repeat (first | (with_reducible first | exact HB.out | apply below_alloc | apply pw_below_drewN | apply below_drew1 | refine below_set ?_ GE145.out) | exact HB.out)) hb); have n5_ := Aside0.mk (hbox); have n6_ := Aside0.mk ((by rw [hg]; exact (below_size (by repeat (first | (with_reducible first | exact HB.out | apply below_alloc | apply pw_below_drewN | apply below_drew1 | refine below_set ?_ GE145.out) | exact HB.out))) : w.heap.size ≤ gb169)); have n7_ := Aside0.mk ((by rw [hg]; exact (below_size (by repeat (first | (with_reducible first | exact HB.out | apply below_alloc | apply pw_below_drewN | apply below_drew1 | refine below_set ?_ GE145.out) | exact HB.out))) : w.heap.size ≤ gb169)); have n8_ := Aside0.mk ((by rw [hg]; exact Nat.ne_of_lt (blk_lt (g := gb145) (o := .cells #[.int .i64 a0_0, .int .i64 a0_1, .string a0_2, .slice A0_3 l0_3.length c0_3] 24 (0, 0)) (by (with_reducible repeat (first | refine blk_drewN ?_ _ | refine blk_drew ?_ | refine blk_alloc ?_ _)); exact BK145.out)) : gb145 ≠ gb169)); have n9_ := Aside0.mk ((by rw [hg]; exact Nat.ne_of_gt (blk_lt (g := gb145) (o := .cells #[.int .i64 a0_0, .int .i64 a0_1, .string a0_2, .slice A0_3 l0_3.length c0_3] 24 (0, 0)) (by (with_reducible repeat (first | refine blk_drewN ?_ _ | refine blk_drew ?_ | refine blk_alloc ?_ _)); exact BK145.out)) : gb169 ≠ gb145)); clear HO_7; clear HO167; clear BK145; clear HR161; clear HB; have HO_7 := n0_; have HO167 := n1_; have BK145 := n2_; have HR161 := n3_; have HB := n4_; have BK169 := n5_; have GW169 := n6_; have GE169 := n7_; have NB145_169 := n8_; have NB169_145 := n9_; clear n0_ n1_ n2_ n3_ n4_ n5_ n6_ n7_ n8_ n9_; clear hb hbox hg; have hnb57 := NB169_145.out; have hnc57 := NB145_169.out; have hcz58_0 : w56.cell? ⟨gb169, 0, none⟩ = some (.int .i64 0) := (blk_cell BK169.out 0).trans rfl; have hcz58_1 : w56.cell? ⟨gb169, 1, none⟩ = some (.int .i64 0) := (blk_cell BK169.out 1).trans rfl; have hcz58_2 : w56.cell? ⟨gb169, 2, none⟩ = some (.string (⟨#[]⟩ : ByteArray)) := (blk_cell BK169.out 2).trans rfl; have hcz58_3 : w56.cell? ⟨gb169, 3, none⟩ = some (.slice none 0 0) := (blk_cell BK169.out 3).trans rfl; have hfz58_0 := blk_frozen BK169.out 0; have hfz58_1 := blk_frozen BK169.out 1; have hfz58_2 := blk_frozen BK169.out 2; have hfz58_3 := blk_frozen BK169.out 3; obtain ⟨Ao59, co59, eo59⟩ := Kd.R_slice HO167.out; subst eo59) | ((with_reducible refine gate_dst (N := 50) rfl ?_); (try (refine gate_guard (by rfl) ?_; dsimp only)); refine Kd.R_lit (Kd.int .u8) _ 5 ?hg (N := 50) ?hd (xs := ([] : List Int)) (inner := []) (ok := fun _ => True) (okp := fun _ => True) ?hr ?hp (fun _ hk => hk) trivial (Below.refl _ _) (Nat.le_refl _) (by simp) ?_; (case hd => rfl); (case hg => rfl); (case hr => first | (go_simp; done) | (go_simp; rfl)); (case hp => exact (Reps.none _ _)); intro v171 w60 ho61 hb hg_ hnew_; clear hg_ hnew_; (first | rw [← Ny170.out] at ho61 | (simp only [Int.reduceToNat] at ho61; rw [← Ny170.out] at ho61)); have n0_ := Aside0.mk (Kd.R_elder' (by (with_reducible repeat (first | apply Kd.R_alloc | apply Kd.R_drewN | apply Kd.R_drew)); exact (Kd.R_mono (Kd.R_far (p := ⟨gb169, 3, none⟩) (Kd.R_far (p := ⟨gb169, 2, none⟩) (Kd.R_far (p := ⟨gb169, 1, none⟩) (Kd.R_far (p := ⟨gb169, 0, none⟩) (Kd.R_types HO_7.out BK169.out (by decide)) (fun _ hk => hk.2) (.int .i64 t162)) (fun _ hk => hk.2) (.int .i64 t163)) (fun _ hk => hk.2) (.string t164)) (fun _ hk => hk.2) (.slice Ao59 t165.length co59)) (fun _ h_ => h_.1))) (Kd.R_base ho61) hb); have n1_ := Aside0.mk (Kd.R_below (by (with_reducible repeat (first | apply Kd.R_alloc | apply Kd.R_drewN | apply Kd.R_drew)); exact (Kd.R_mono (Kd.R_far (p := ⟨gb169, 3, none⟩) (Kd.R_far (p := ⟨gb169, 2, none⟩) (Kd.R_far (p := ⟨gb169, 1, none⟩) (Kd.R_far (p := ⟨gb169, 0, none⟩) (Kd.R_mono HO167.out (fun k_ hk => (⟨hk, hk.2⟩ : _ ∧ k_ ≠ gb169))) (fun _ hk => hk.2) (.int .i64 t162)) (fun _ hk => hk.2) (.int .i64 t163)) (fun _ hk => hk.2) (.string t164)) (fun _ hk => hk.2) (.slice Ao59 t165.length co59)) (fun _ h_ => h_.1))) hb); have n2_ := Aside0.mk (Kd.R_lower (Kd.R_new' ho61 (Kd.R_lt (by (with_reducible repeat (first | apply Kd.R_alloc | apply Kd.R_drewN | apply Kd.R_drew)); exact (Kd.R_mono (Kd.R_far (p := ⟨gb169, 3, none⟩) (Kd.R_far (p := ⟨gb169, 2, none⟩) (Kd.R_far (p := ⟨gb169, 1, none⟩) (Kd.R_far (p := ⟨gb169, 0, none⟩) (Kd.R_types HO_7.out BK169.out (by decide)) (fun _ hk => hk.2) (.int .i64 t162)) (fun _ hk => hk.2) (.int .i64 t163)) (fun _ hk => hk.2) (.string t164)) (fun _ hk => hk.2) (.slice Ao59 t165.length co59)) (fun _ h_ => h_.1))))) (below_size (by repeat (first | (with_reducible first | exact HB.out | apply below_alloc | apply pw_below_drewN | apply below_drew1 | refine below_set ?_ GE145.out | refine below_set ?_ GE169.out) | exact HB.out)))); have n3_ := Aside0.mk (blk_below (g := gb145) (o := .cells #[.int .i64 a0_0, .int .i64 a0_1, .string a0_2, .slice A0_3 l0_3.length c0_3] 24 (0, 0)) (by (with_reducible repeat (first | refine blk_drewN ?_ _ | refine blk_drew ?_ | refine blk_alloc ?_ _)); refine blk_far ?_ NB145_169.out _; (with_reducible repeat (first | refine blk_drewN ?_ _ | refine blk_drew ?_ | refine blk_alloc ?_ _)); refine blk_far ?_ NB145_169.out _; (with_reducible repeat (first | refine blk_drewN ?_ _ | refine blk_drew ?_ | refine blk_alloc ?_ _)); refine blk_far ?_ NB145_169.out _; (with_reducible repeat (first | refine blk_drewN ?_ _ | refine blk_drew ?_ | refine blk_alloc ?_ _)); refine blk_far ?_ NB145_169.out _; (with_reducible repeat (first | refine blk_drewN ?_ _ | refine blk_drew ?_ | refine blk_alloc ?_ _)); exact BK145.out) hb); have n4_ := Aside0.mk (blk_below (g := gb169) (o := .cells #[.int .i64 t162, .int .i64 t163, .string t164, .slice Ao59 t165.length co59] 29 (0, 0)) (by (with_reducible repeat (first | refine blk_drewN ?_ _ | refine blk_drew ?_ | refine blk_alloc ?_ _)); refine blk_put (cs := #[.int .i64 t162, .int .i64 t163, .string t164, .slice none 0 0]) ?_ 3 _ rfl; (with_reducible repeat (first | refine blk_drewN ?_ _ | refine blk_drew ?_ | refine blk_alloc ?_ _)); refine blk_put (cs := #[.int .i64 t162, .int .i64 t163, .string (⟨#[]⟩ : ByteArray), .slice none 0 0]) ?_ 2 _ rfl; (with_reducible repeat (first | refine blk_drewN ?_ _ | refine blk_drew ?_ | refine blk_alloc ?_ _)); refine blk_put (cs := #[.int .i64 t162, .int .i64 0, .string (⟨#[]⟩ : ByteArray), .slice none 0 0]) ?_ 1 _ rfl; (with_reducible repeat (first | refine blk_drewN ?_ _ | refine blk_drew ?_ | refine blk_alloc ?_ _)); refine blk_put (cs := #[.int .i64 0, .int .i64 0, .string (⟨#[]⟩ : ByteArray), .slice none 0 0]) ?_ 0 _ rfl; (with_reducible repeat (first | refine blk_drewN ?_ _ | refine blk_drew ?_ | refine blk_alloc ?_ _)); exact BK169.out) hb); have n5_ := Aside0.mk (below_step (by repeat (first | (with_reducible first | exact HB.out | apply below_alloc | apply pw_below_drewN | apply below_drew1 | refine below_set ?_ GE145.out | refine below_set ?_ GE169.out) | exact HB.out)) hb); clear HO_7; clear HO167; clear BK145; clear BK169; clear HB; have HO_7 := n0_; have HO167 := n1_; have HO172 := n2_; have BK145 := n3_; have BK169 := n4_; have HB := n5_; clear n0_ n1_ n2_ n3_ n4_ n5_; clear hb ho61) | ((with_reducible refine gate_builtin (b := .append) (xs := #[.tmp 50, .tmp 51]) rfl ?_); (try (refine gate_guard (by rfl) ?_; dsimp only)); at_builtin; refine Kd.R_append_rows (Kd.int .u8) (w0 := w) w.heap.size rfl (.tmp 50) (.tmp 51) 31 5 (.int .u8 0) 1 rfl Try.underlying31 info5 rfl (by decide) (by omega) v171 y170 t154 _ _ _ (fun k_ => some k_ ≠ (.slice Ao53 t154.length co53 : Value).ownBlock) (fun _ => False) rfl rfl ?aO ?aR (fun _ _ h => h) (fun _ h => h.elim) ?aF ?aB ?aS ?aL ?_; (case aR => repeat (first | exact (Kd.R_reads' HO_7.out).2.2 | (with_reducible refine Kd.C_alloc ?_ _) | (with_reducible refine Kd.C_drewN ?_ _) | (with_reducible refine Kd.C_drew ?_))); (case aB => exact (by repeat (first | (with_reducible first | exact HB.out | apply below_alloc | apply pw_below_drewN | apply below_drew1 | refine below_set ?_ GE145.out | refine below_set ?_ GE169.out) | exact HB.out))); (case aF => exact (fun k_ hk => Kd.fresh' (Kd.R_lt (by (with_reducible repeat (first | apply Kd.R_alloc | apply Kd.R_drewN | apply Kd.R_drew)); exact HO_7.out)) k_ hk)); (case aO => exact (by (with_reducible repeat (first | apply Kd.R_alloc | apply Kd.R_drewN | apply Kd.R_drew)); exact Kd.R_mono HO172.out (fun _ hk => hk.2))); (case aS => exact (below_size (by repeat (first | (with_reducible first | exact HB.out | apply below_alloc | apply pw_below_drewN | apply below_drew1 | refine below_set ?_ GE145.out | refine below_set ?_ GE169.out) | exact HB.out)))); (case aL => have := LMc31.out; omega); intro v174 w62 ho hb hg hat; rw [← Ny173.out] at ho; have n0_ := Aside0.mk (Kd.R_after (ok := (fun _ => True)) (by (with_reducible repeat (first | apply Kd.R_alloc | apply Kd.R_drewN | apply Kd.R_drew)); exact HO_7.out) hg hat); have n1_ := Aside0.mk (blk_grown (g := gb145) (o := .cells #[.int .i64 a0_0, .int .i64 a0_1, .string a0_2, .slice A0_3 l0_3.length c0_3] 24 (0, 0)) (by (with_reducible repeat (first | refine blk_drewN ?_ _ | refine blk_drew ?_ | refine blk_alloc ?_ _)); exact BK145.out) hg (Kd.R_ne HO172.out BK145.out (by decide))); have n2_ := Aside0.mk (Kd.R_over' (by (with_reducible repeat (first | apply Kd.R_alloc | apply Kd.R_drewN | apply Kd.R_drew)); exact HO167.out) (Kd.R_typed (by (with_reducible repeat (first | apply Kd.R_alloc | apply Kd.R_drewN | apply Kd.R_drew)); exact HO172.out)) (by decide) hg); have n3_ := Aside0.mk (blk_grown (g := gb169) (o := .cells #[.int .i64 t162, .int .i64 t163, .string t164, .slice Ao59 t165.length co59] 29 (0, 0)) (by (with_reducible repeat (first | refine blk_drewN ?_ _ | refine blk_drew ?_ | refine blk_alloc ?_ _)); exact BK169.out) hg (Kd.R_ne HO172.out BK169.out (by decide))); have n4_ := Aside0.mk (hb); have n5_ := Aside0.mk ((show Kd.C (Kd.int .u8) w62 Ao53 y158.length y158 from by rw [Ny158.out]; exact Kd.C_take (m := ((ji27) : Int).toNat) ((Kd.R_reads' (Kd.R_after (ok := (fun _ => True)) (by (with_reducible repeat (first | apply Kd.R_alloc | apply Kd.R_drewN | apply Kd.R_drew)); exact HO_7.out) hg hat)).2.2) KL54.out)); have n6_ := Aside0.mk (ho); clear HO_7; clear BK145; clear HO167; clear BK169; clear HB; clear HR161; clear HO172; have HO_7 := n0_; have BK145 := n1_; have HO167 := n2_; have BK169 := n3_; have HB := n4_; have HR161 := n5_; have HO175 := n6_; clear n0_ n1_ n2_ n3_ n4_ n5_ n6_; clear ho hb hg hat) | ((with_reducible refine gate_builtin (b := .append) (xs := #[.tmp 52, .tmp 53]) rfl ?_); (try (refine gate_guard (by rfl) ?_; dsimp only)); at_builtin; refine Kd.R_append_rows (Kd.int .u8) (w0 := w) w.heap.size rfl (.tmp 52) (.tmp 53) 31 5 (.int .u8 0) 1 rfl Try.underlying31 info5 rfl (by decide) (by omega) v174 y173 l2 _ _ _ (fun k_ => some k_ ≠ (.slice Ao53 t154.length co53 : Value).ownBlock) (fun _ => False) rfl rfl ?aO ?aR (fun _ _ h => h) (fun _ h => h.elim) ?aF ?aB ?aS ?aL ?_; (case aR => repeat (first | exact (Kd.C_below HR2.out HB.out) | (with_reducible refine Kd.C_alloc ?_ _) | (with_reducible refine Kd.C_drewN ?_ _) | (with_reducible refine Kd.C_drew ?_))); (case aB => exact (by repeat (first | (with_reducible first | exact HB.out | apply below_alloc | apply pw_below_drewN | apply below_drew1 | refine below_set ?_ GE145.out | refine below_set ?_ GE169.out) | exact HB.out))); (case aF => exact (fun k_ hk => Kd.fresh' (Kd.R_lt (by (with_reducible repeat (first | apply Kd.R_alloc | apply Kd.R_drewN | apply Kd.R_drew)); exact HO_7.out)) k_ hk)); (case aO => exact (by (with_reducible repeat (first | apply Kd.R_alloc | apply Kd.R_drewN | apply Kd.R_drew)); exact HO175.out)); (case aS => exact (below_size (by repeat (first | (with_reducible first | exact HB.out | apply below_alloc | apply pw_below_drewN | apply below_drew1 | refine below_set ?_ GE145.out | refine below_set ?_ GE169.out) | exact HB.out)))); (case aL => have := LMc32.out; omega); intro v177 w63 ho hb hg hat; rw [← Ny176.out] at ho; have n0_ := Aside0.mk (Kd.R_after (ok := (fun _ => True)) (by (with_reducible repeat (first | apply Kd.R_alloc | apply Kd.R_drewN | apply Kd.R_drew)); exact HO_7.out) hg hat); have n1_ := Aside0.mk (blk_grown (g := gb145) (o := .cells #[.int .i64 a0_0, .int .i64 a0_1, .string a0_2, .slice A0_3 l0_3.length c0_3] 24 (0, 0)) (by (with_reducible repeat (first | refine blk_drewN ?_ _ | refine blk_drew ?_ | refine blk_alloc ?_ _)); exact BK145.out) hg (Kd.R_ne HO175.out BK145.out (by decide))); have n2_ := Aside0.mk (Kd.R_over' (by (with_reducible repeat (first | apply Kd.R_alloc | apply Kd.R_drewN | apply Kd.R_drew)); exact HO167.out) (Kd.R_typed (by (with_reducible repeat (first | apply Kd.R_alloc | apply Kd.R_drewN | apply Kd.R_drew)); exact HO175.out)) (by decide) hg); have n3_ := Aside0.mk (blk_grown (g := gb169) (o := .cells #[.int .i64 t162, .int .i64 t163, .string t164, .slice Ao59 t165.length co59] 29 (0, 0)) (by (with_reducible repeat (first | refine blk_drewN ?_ _ | refine blk_drew ?_ | refine blk_alloc ?_ _)); exact BK169.out) hg (Kd.R_ne HO175.out BK169.out (by decide))); have n4_ := Aside0.mk (hb); have n5_ := Aside0.mk ((show Kd.C (Kd.int .u8) w63 Ao53 y158.length y158 from by rw [Ny158.out]; exact Kd.C_take (m := ((ji27) : Int).toNat) ((Kd.R_reads' (Kd.R_after (ok := (fun _ => True)) (by (with_reducible repeat (first | apply Kd.R_alloc | apply Kd.R_drewN | apply Kd.R_drew)); exact HO_7.out) hg hat)).2.2) KL54.out)); have n6_ := Aside0.mk (ho); clear HO_7; clear BK145; clear HO167; clear BK169; clear HB; clear HR161; clear HO175; have HO_7 := n0_; have BK145 := n1_; have HO167 := n2_; have BK169 := n3_; have HB := n4_; have HR161 := n5_; have HO178 := n6_; clear n0_ n1_ n2_ n3_ n4_ n5_ n6_; clear ho hb hg hat; obtain ⟨Ao64, co64, eo64⟩ := Kd.R_slice HO178.out; subst eo64) | ((with_reducible refine gate_callee (f := 22) rfl ?_); refine goesL_ (some 55) rfl rfl Try.func22 (by kernel_rfl) rfl #[.slice Ao64 y176.length co64] rfl (by (try simp only [List.map_toArray, List.map_cons, List.map_nil]); first | done | rfl | (simp only [List.length_drop, List.length_take]; rfl)) ?_; (with_reducible refine (codec_Decode.calls kj17 _ _ y176 t179 t180 t181 t182 t185 _ ?side1 ?side2 A33.out).mono ?_); (case side1 => repeat (first | exact (Kd.R_reads' HO178.out).2.2 | (with_reducible refine Kd.C_alloc ?_ _) | (with_reducible refine Kd.C_drewN ?_ _) | (with_reducible refine Kd.C_drew ?_))); (case side2 => exact (Kd.R_reads' HO178.out).2.1); rintro e w65 ⟨v183, rfl, ho0, hb⟩; refine ⟨_, rfl, ?_⟩; have n0_ := Aside0.mk (Kd.R_below (by (with_reducible repeat (first | apply Kd.R_alloc | apply Kd.R_drewN | apply Kd.R_drew)); exact HO_7.out) hb); have n1_ := Aside0.mk (Kd.R_elder' (by (with_reducible repeat (first | apply Kd.R_alloc | apply Kd.R_drewN | apply Kd.R_drew)); exact HO167.out) (Kd.R_base ho0) hb); have n2_ := Aside0.mk (Kd.R_below (by (with_reducible repeat (first | apply Kd.R_alloc | apply Kd.R_drewN | apply Kd.R_drew)); exact HO178.out) hb); have n3_ := Aside0.mk (Kd.R_lower (Kd.R_newB (Kd.R_new' ho0 (Kd.R_lt (by (with_reducible repeat (first | apply Kd.R_alloc | apply Kd.R_drewN | apply Kd.R_drew)); exact HO167.out))) (g := gb169) (o := .cells #[.int .i64 t162, .int .i64 t163, .string t164, .slice Ao59 t165.length co59] 29 (0, 0)) (by (with_reducible repeat (first | refine blk_drewN ?_ _ | refine blk_drew ?_ | refine blk_alloc ?_ _)); exact BK169.out)) (below_size (by repeat (first | (with_reducible first | exact HB.out | apply below_alloc | apply pw_below_drewN | apply below_drew1 | refine below_set ?_ GE145.out | refine below_set ?_ GE169.out) | exact HB.out)))); have n4_ := Aside0.mk (blk_below (g := gb145) (o := .cells #[.int .i64 a0_0, .int .i64 a0_1, .string a0_2, .slice A0_3 l0_3.length c0_3] 24 (0, 0)) (by (with_reducible repeat (first | refine blk_drewN ?_ _ | refine blk_drew ?_ | refine blk_alloc ?_ _)); exact BK145.out) hb); have n5_ := Aside0.mk (blk_below (g := gb169) (o := .cells #[.int .i64 t162, .int .i64 t163, .string t164, .slice Ao59 t165.length co59] 29 (0, 0)) (by (with_reducible repeat (first | refine blk_drewN ?_ _ | refine blk_drew ?_ | refine blk_alloc ?_ _)); exact BK169.out) hb); have n6_ := Aside0.mk (Kd.C_below (by repeat (first | (with_reducible exact HR161.out) | (with_reducible refine Kd.C_alloc ?_ _) | (with_reducible refine Kd.C_drewN ?_ _) | (with_reducible refine Kd.C_drew ?_) | exact HR161.out)) hb); have n7_ := Aside0.mk (below_step (by repeat (first | (with_reducible first | exact HB.out | apply below_alloc | apply pw_below_drewN | apply below_drew1 | refine below_set ?_ GE145.out | refine below_set ?_ GE169.out) | exact HB.out)) hb); clear HO_7; clear HO167; clear HO178; clear BK145; clear BK169; clear HR161; clear HB; have HO_7 := n0_; have HO167 := n1_; have HO178 := n2_; have HO184 := n3_; have BK145 := n4_; have BK169 := n5_; have HR161 := n6_; have HB := n7_; clear n0_ n1_ n2_ n3_ n4_ n5_ n6_ n7_; (try clear hb); (try clear hb2); (try clear hk); (try clear hi); (try clear ho0)) | ((with_reducible refine gate_dst (N := 11) rfl ?_); (try (refine gate_guard (by rfl) ?_; dsimp only)); refine box_event ?hg (N := 11) ?hd (cs := #[.int .i64 0, .int .i64 0, .string (⟨#[]⟩ : ByteArray), .slice none 0 0]) (t := 29) ?hr ?_; (case hd => rfl); (case hg => rfl); (case hr => first | (go_simp; done) | (go_simp; rfl)); intro gb186 hg w66 hbox hb; have n0_ := Aside0.mk (Kd.R_below (by (with_reducible repeat (first | apply Kd.R_alloc | apply Kd.R_drewN | apply Kd.R_drew)); exact HO_7.out) hb); have n1_ := Aside0.mk (Kd.R_below (Kd.R_elderB (by (with_reducible repeat (first | apply Kd.R_alloc | apply Kd.R_drewN | apply Kd.R_drew)); exact HO167.out) gb186 (Nat.le_of_eq hg.symm)) hb); have n2_ := Aside0.mk (Kd.R_below (by (with_reducible repeat (first | apply Kd.R_alloc | apply Kd.R_drewN | apply Kd.R_drew)); exact HO178.out) hb); have n3_ := Aside0.mk (Kd.R_below (Kd.R_elderB (by (with_reducible repeat (first | apply Kd.R_alloc | apply Kd.R_drewN | apply Kd.R_drew)); exact HO184.out) gb186 (Nat.le_of_eq hg.symm)) hb); have n4_ := Aside0.mk (blk_below (g := gb145) (o := .cells #[.int .i64 a0_0, .int .i64 a0_1, .string a0_2, .slice A0_3 l0_3.length c0_3] 24 (0, 0)) (by (with_reducible repeat (first | refine blk_drewN ?_ _ | refine blk_drew ?_ | refine blk_alloc ?_ _)); exact BK145.out) hb); have n5_ := Aside0.mk (blk_below (g := gb169) (o := .cells #[.int .i64 t162, .int .i64 t163, .string t164, .slice Ao59 t165.length co59] 29 (0, 0)) (by (with_reducible repeat (first | refine blk_drewN ?_ _ | refine blk_drew ?_ | refine blk_alloc ?_ _)); exact BK169.out) hb); have n6_ := Aside0.mk (Kd.C_below (by repeat (first | (with_reducible exact HR161.out) | (with_reducible refine Kd.C_alloc ?_ _) | (with_reducible refine Kd.C_drewN ?_ _) | (with_reducible refine Kd.C_drew ?_) | exact HR161.out)) hb); have n7_ := Aside0.mk (below_step (by repeat (first | (with_reducible first | exact HB.out | apply below_alloc | apply pw_below_drewN | apply below_drew1 | refine below_set ?_ GE145.out | refine below_set ?_ GE169.out) | exact HB.out)) hb); have n8_ := Aside0.mk (hbox); have n9_ := Aside0.mk ((by rw [hg]; exact (below_size (by repeat (first | (with_reducible first | exact HB.out | apply below_alloc | apply pw_below_drewN | apply below_drew1 | refine below_set ?_ GE145.out | refine below_set ?_ GE169.out) | exact HB.out))) : w.heap.size ≤ gb186)); have n10_ := Aside0.mk ((by rw [hg]; exact (below_size (by repeat (first | (with_reducible first | exact HB.out | apply below_alloc | apply pw_below_drewN | apply below_drew1 | refine below_set ?_ GE145.out | refine below_set ?_ GE169.out) | exact HB.out))) : w.heap.size ≤ gb186)); have n11_ := Aside0.mk ((by rw [hg]; exact Nat.ne_of_lt (blk_lt (g := gb145) (o := .cells #[.int .i64 a0_0, .int .i64 a0_1, .string a0_2, .slice A0_3 l0_3.length c0_3] 24 (0, 0)) (by (with_reducible repeat (first | refine blk_drewN ?_ _ | refine blk_drew ?_ | refine blk_alloc ?_ _)); exact BK145.out)) : gb145 ≠ gb186)); have n12_ := Aside0.mk ((by rw [hg]; exact Nat.ne_of_gt (blk_lt (g := gb145) (o := .cells #[.int .i64 a0_0, .int .i64 a0_1, .string a0_2, .slice A0_3 l0_3.length c0_3] 24 (0, 0)) (by (with_reducible repeat (first | refine blk_drewN ?_ _ | refine blk_drew ?_ | refine blk_alloc ?_ _)); exact BK145.out)) : gb186 ≠ gb145)); have n13_ := Aside0.mk ((by rw [hg]; exact Nat.ne_of_lt (blk_lt (g := gb169) (o := .cells #[.int .i64 t162, .int .i64 t163, .string t164, .slice Ao59 t165.length co59] 29 (0, 0)) (by (with_reducible repeat (first | refine blk_drewN ?_ _ | refine blk_drew ?_ | refine blk_alloc ?_ _)); exact BK169.out)) : gb169 ≠ gb186)); have n14_ := Aside0.mk ((by rw [hg]; exact Nat.ne_of_gt (blk_lt (g := gb169) (o := .cells #[.int .i64 t162, .int .i64 t163, .string t164, .slice Ao59 t165.length co59] 29 (0, 0)) (by (with_reducible repeat (first | refine blk_drewN ?_ _ | refine blk_drew ?_ | refine blk_alloc ?_ _)); exact BK169.out)) : gb186 ≠ gb169)); clear HO_7; clear HO167; clear HO178; clear HO184; clear BK145; clear BK169; clear HR161; clear HB; have HO_7 := n0_; have HO167 := n1_; have HO178 := n2_; have HO184 := n3_; have BK145 := n4_; have BK169 := n5_; have HR161 := n6_; have HB := n7_; have BK186 := n8_; have GW186 := n9_; have GE186 := n10_; have NB145_186 := n11_; have NB186_145 := n12_; have NB169_186 := n13_; have NB186_169 := n14_; clear n0_ n1_ n2_ n3_ n4_ n5_ n6_ n7_ n8_ n9_ n10_ n11_ n12_ n13_ n14_; clear hb hbox hg; have hnb67 := NB186_145.out; have hnc67 := NB145_186.out; have hnb68 := NB186_169.out; have hnc68 := NB169_186.out; have hcz69_0 : w66.cell? ⟨gb186, 0, none⟩ = some (.int .i64 0) := (blk_cell BK186.out 0).trans rfl; have hcz69_1 : w66.cell? ⟨gb186, 1, none⟩ = some (.int .i64 0) := (blk_cell BK186.out 1).trans rfl; have hcz69_2 : w66.cell? ⟨gb186, 2, none⟩ = some (.string (⟨#[]⟩ : ByteArray)) := (blk_cell BK186.out 2).trans rfl; have hcz69_3 : w66.cell? ⟨gb186, 3, none⟩ = some (.slice none 0 0) := (blk_cell BK186.out 3).trans rfl; have hfz69_0 := blk_frozen BK186.out 0; have hfz69_1 := blk_frozen BK186.out 1; have hfz69_2 := blk_frozen BK186.out 2; have hfz69_3 := blk_frozen BK186.out 3; obtain ⟨Ao70, co70, eo70⟩ := Kd.R_slice HO184.out; subst eo70))
                            go_ret
                            exact ⟨by first | rfl | (simp [errW_none, errW_some] <;> rfl) | (simp only [← hji27]; first | rfl | (simp [errW_none, errW_some] <;> rfl)) | (simp [*, errW_none, errW_some] <;> rfl), by repeat (first | (with_reducible first | exact HB.out | apply below_alloc | apply pw_below_drewN | apply below_drew1 | refine below_set ?_ GE145.out | refine below_set ?_ GE169.out | refine below_set ?_ GE186.out) | exact HB.out)⟩
                        · rw [if_neg c32] at H
                          exact absurd H (by simp)
                      · rw [if_neg c31] at H
                        exact absurd H (by simp)
                    · rw [if_neg c29] at H
                      exact absurd H (by simp)
                  · rw [if_neg c28] at H
                    exact absurd H (by simp)
  · replace c5 := Bool.eq_false_iff.mpr c5
    subst c5
    have H1 : (some false) = some r := by rw [if_neg (show ¬ (false = true) by decide)] at H; exact H
    clear H
    have H := H1
    clear H1
    obtain rfl := Option.some.inj H
    go_enter Try.func6, Try.ntmps6
    go_wp2_with (first | ((with_reducible refine gate_dst (N := 3) rfl ?_); (try (refine gate_guard (by rfl) ?_; dsimp only)); refine box_event ?hg (N := 3) ?hd (cs := #[.int .i64 a0_0, .int .i64 a0_1, .string a0_2, .slice A0_3 l0_3.length c0_3]) (t := 24) ?hr ?_; (case hd => rfl); (case hg => rfl); (case hr => first | (go_simp; done) | (go_simp; rfl)); intro gb145 hg w71 hbox hb; have n0_ := Aside0.mk (below_step (by repeat (first | (with_reducible first | exact HB.out | apply below_alloc | apply pw_below_drewN | apply below_drew1) | exact HB.out)) hb); have n1_ := Aside0.mk (hbox); have n2_ := Aside0.mk ((by rw [hg]; exact (below_size (by repeat (first | (with_reducible first | exact HB.out | apply below_alloc | apply pw_below_drewN | apply below_drew1) | exact HB.out))) : w.heap.size ≤ gb145)); have n3_ := Aside0.mk ((by rw [hg]; exact (below_size (by repeat (first | (with_reducible first | exact HB.out | apply below_alloc | apply pw_below_drewN | apply below_drew1) | exact HB.out))) : w.heap.size ≤ gb145)); clear HB; have HB := n0_; have BK145 := n1_; have GW145 := n2_; have GE145 := n3_; clear n0_ n1_ n2_ n3_; clear hb hbox hg) | ((with_reducible refine gate_callee (f := 11) rfl ?_); refine goesL_ (some 13) rfl rfl Try.func11 (by kernel_rfl) rfl #[] rfl (by (try simp only [List.map_toArray, List.map_cons, List.map_nil]); first | done | rfl | (simp only [List.length_drop, List.length_take]; rfl)) ?_; (with_reducible refine (vinculumlaw03_awake.calls k  false _ A4.out).mono ?_); rintro e w72 ⟨rfl, hb⟩; refine ⟨_, rfl, ?_⟩; have n0_ := Aside0.mk (blk_below (g := gb145) (o := .cells #[.int .i64 a0_0, .int .i64 a0_1, .string a0_2, .slice A0_3 l0_3.length c0_3] 24 (0, 0)) (by (with_reducible repeat (first | refine blk_drewN ?_ _ | refine blk_drew ?_ | refine blk_alloc ?_ _)); exact BK145.out) hb); have n1_ := Aside0.mk (below_step (by repeat (first | (with_reducible first | exact HB.out | apply below_alloc | apply pw_below_drewN | apply below_drew1 | refine below_set ?_ GE145.out) | exact HB.out)) hb); clear BK145; clear HB; have BK145 := n0_; have HB := n1_; clear n0_ n1_; (try clear hb); (try clear hb2); (try clear hk); (try clear hi)))
    go_ret
    exact ⟨by first | rfl | (simp [errW_none, errW_some] <;> rfl) | (simp [*, errW_none, errW_some] <;> rfl), by repeat (first | (with_reducible first | exact HB.out | apply below_alloc | apply pw_below_drewN | apply below_drew1 | refine below_set ?_ GE145.out) | exact HB.out)⟩

end Go.Proofs.Ytploigkfnkgjiaa.PC
