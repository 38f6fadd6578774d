-- Written by a program of this place (wip/gen.py) with the kit's print; not trusted: Lean checks it.
import Derived.Test.YtploigkfnkgjiaaPNx0
import Derived.Test.YtploigkfnkgjiaaPNx5
namespace Go.Proofs.Ytploigkfnkgjiaa.PN
open Go.RowKit Go.Proofs.YtploigkfnkgjiaaW.PrintWords Go.Proofs.YtploigkfnkgjiaaW.PrintLast Go.Proofs.YtploigkfnkgjiaaW.PrintMore
attribute [local go_sem] max2_int min2_int max_two min_two max_three min_three max_four min_four   -- for this text's walks alone
set_option linter.unusedVariables false
set_option linter.unusedSimpArgs false

/-! ### codec_reader_value: function 34, by hand -/

/-- Four stores into a box. -/
def st4 (W : World) (b : Nat) (v0 v1 v2 v3 : Value) : World := (((W.setCell ⟨b, 0, none⟩ v0).setCell ⟨b, 1, none⟩ v1).setCell ⟨b, 2, none⟩ v2).setCell ⟨b, 3, none⟩ v3
theorem st4_blk {W : World} {b t : Nat} {c0 c1 c2 c3 : Value} (h : W.heap[b]? = some (.cells #[c0, c1, c2, c3] t (0, 0))) (v0 v1 v2 v3 : Value) : (st4 W b v0 v1 v2 v3).heap[b]? = some (.cells #[v0, v1, v2, v3] t (0, 0)) := blk_put (blk_put (blk_put (blk_put h 0 v0 rfl) 1 v1 rfl) 2 v2 rfl) 3 v3 rfl
theorem st4_kept {w W : World} {S : Nat → Prop} {b : Nat} (h : Kept w W S) (hb : S b ∨ w.heap.size ≤ b) (v0 v1 v2 v3 : Value) : Kept w (st4 W b v0 v1 v2 v3) S := (((h.setCell (p := ⟨b, 0, none⟩) hb v0).setCell (p := ⟨b, 1, none⟩) hb v1).setCell (p := ⟨b, 2, none⟩) hb v2).setCell (p := ⟨b, 3, none⟩) hb v3
theorem st4_below {w W : World} {B b : Nat} (h : Below B w W) (hb : B ≤ b) (v0 v1 v2 v3 : Value) : Below B w (st4 W b v0 v1 v2 v3) := (((h.setCell (p := ⟨b, 0, none⟩) hb v0).setCell (p := ⟨b, 1, none⟩) hb v1).setCell (p := ⟨b, 2, none⟩) hb v2).setCell (p := ⟨b, 3, none⟩) hb v3
/-- The end of value: what was stored into the result's box is what comes back. -/
theorem value_end {w W : World} {v0 v1 v2 v3 : Value} {ok : Bool} {tm : Array Value} {R : Ending → World → Prop} (ht : tm[4]? = some (.pointer (some ⟨w.heap.size, 0, none⟩))) (ht5 : tm[5]? = some (.bool ok)) (hb : W.heap[w.heap.size]? = some (.cells #[v0, v1, v2, v3] 29 (0, 0)))
    (h : R (.returned (.tuple #[.agg #[v0, v1, v2, v3], .bool ok])) W) : bodyPost Try.prog Try.f34 R .ret { tmps := tm, defers := [] } W := by
  have g0 : W.cell? ⟨w.heap.size, 0, none⟩ = some v0 := (blk_cell hb 0).trans rfl
  have g1 : W.cell? ⟨w.heap.size, 1, none⟩ = some v1 := (blk_cell hb 1).trans rfl
  have g2 : W.cell? ⟨w.heap.size, 2, none⟩ = some v2 := (blk_cell hb 2).trans rfl
  have g3 : W.cell? ⟨w.heap.size, 3, none⟩ = some v3 := (blk_cell hb 3).trans rfl
  refine bodyPost_ret (v := .tuple #[.agg #[v0, v1, v2, v3], .bool ok]) ?hv rfl h
  case hv =>
    simp [results, Try.f34, go_sem, g0, g1, g2, g3, ht, ht5]
set_option maxHeartbeats 3200000 in
set_option maxRecDepth 100000 in
theorem value_fail0 (w0 w : World) (g : Nat) (l : List Int) (m : Int) (hb : Bytes l) (hg : w0.heap.size ≤ g) (hB : Below w0.heap.size w0 w) (hs : RdS w0 w g l) (kd n : Int) (l1 : List Int) (hh : Aside0 (rheadS l = (kd, n, false, l1))) :
    Calls Try.prog 34 #[.pointer (some ⟨g, 0, none⟩), .int .i64 m] w fun e w' => ∃ v, e = .returned (.tuple #[.agg #[.int .i64 0, .int .i64 0, .string ⟨#[]⟩, v], .bool false]) ∧ Kd.R k29 29 w' w.heap.size (fun k => w.heap.size ≤ k) v [] ∧ RdS w0 w' g l1 ∧ Below w0.heap.size w0 w' ∧ Kept w w' (fun k => k = g) := by
  have HS := Aside0.mk hs
  have HB := Aside0.mk hB
  have hgl : g < w.heap.size := by obtain ⟨A, c, h, _⟩ := hs; exact blk_lt h
  have HGL := Aside0.mk hgl
  clear hs hB hgl
  have HK0 := Aside0.mk ((Kept.refl w (fun k => k = g)).alloc (.cells #[.int .i64 0, .int .i64 0, .string ⟨#[]⟩, .slice none 0 0] 29))
  have HB0 := Aside0.mk (HB.out.alloc HB.out.size (.cells #[.int .i64 0, .int .i64 0, .string ⟨#[]⟩, .slice none 0 0] 29))
  have HS0 : Aside0 (RdS w0 (w.alloc (.cells #[.int .i64 0, .int .i64 0, .string ⟨#[]⟩, .slice none 0 0] 29)) g l) := ⟨by obtain ⟨A, c, h, h2⟩ := HS.out; exact ⟨A, c, blk_alloc h _, h2⟩⟩
  go_enter Try.func34, Try.ntmps34
  go_wp2_with (first | (go_at_call 36; (refine (reader_head.calls w0 _ g l hb hg HB0.out HS0.out).mono ?_); rintro e w1 ⟨rfl, p3, p4, p5⟩; rw [hh.out] at p3 ⊢; dsimp only at p3 ⊢; (have P3 := Aside0.mk p3); (have P4 := Aside0.mk p4); (have P5 := Aside0.mk p5); clear p3 p4 p5; (have B4 := Aside0.mk (blk_kept (blk_new w _) P5.out (fun e_ => Nat.ne_of_gt HGL.out e_))); (have hc0 : w1.cell? ⟨w.heap.size, 0, none⟩ = some (.int .i64 0) := (blk_cell B4.out 0).trans rfl); (have hc1 : w1.cell? ⟨w.heap.size, 1, none⟩ = some (.int .i64 0) := (blk_cell B4.out 1).trans rfl); (have hc2 : w1.cell? ⟨w.heap.size, 2, none⟩ = some (.string ⟨#[]⟩) := (blk_cell B4.out 2).trans rfl); (have hc3 : w1.cell? ⟨w.heap.size, 3, none⟩ = some (.slice none 0 0) := (blk_cell B4.out 3).trans rfl); (have hf0 := blk_frozen B4.out 0); (have hf1 := blk_frozen B4.out 1); (have hf2 := blk_frozen B4.out 2); (have hf3 := blk_frozen B4.out 3)))
  refine value_end (w := w) (ok := false) ?_ ?_ (st4_blk B4.out (.int .i64 0) (.int .i64 0) (.string ⟨#[]⟩) (.slice none 0 0)) ?_
  · rfl
  · rfl
  exact ⟨.slice none 0 0, rfl, Kd.R_nil _ _ _ _ _, RdS.kept P3.out (st4_kept (Kept.refl w1 (fun k => k = w.heap.size)) (.inl rfl) _ _ _ _) (fun e_ => Nat.ne_of_lt HGL.out e_), st4_below P4.out HB.out.size _ _ _ _, st4_kept (Kept.transE HK0.out P5.out) (.inr (Nat.le_refl _)) _ _ _ _⟩
set_option maxHeartbeats 3200000 in
set_option maxRecDepth 100000 in
theorem value_fail1 (w0 w : World) (g : Nat) (l : List Int) (m : Int) (hb : Bytes l) (hg : w0.heap.size ≤ g) (hB : Below w0.heap.size w0 w) (hs : RdS w0 w g l) (kd n : Int) (l1 : List Int) (hh : Aside0 (rheadS l = (kd, n, true, l1))) (hm : m = 0) :
    Calls Try.prog 34 #[.pointer (some ⟨g, 0, none⟩), .int .i64 m] w fun e w' => ∃ v, e = .returned (.tuple #[.agg #[.int .i64 0, .int .i64 0, .string ⟨#[]⟩, v], .bool false]) ∧ Kd.R k29 29 w' w.heap.size (fun k => w.heap.size ≤ k) v [] ∧ RdS w0 w' g l1 ∧ Below w0.heap.size w0 w' ∧ Kept w w' (fun k => k = g) := by
  have HS := Aside0.mk hs
  have HB := Aside0.mk hB
  have hgl : g < w.heap.size := by obtain ⟨A, c, h, _⟩ := hs; exact blk_lt h
  have HGL := Aside0.mk hgl
  clear hs hB hgl
  have HK0 := Aside0.mk ((Kept.refl w (fun k => k = g)).alloc (.cells #[.int .i64 0, .int .i64 0, .string ⟨#[]⟩, .slice none 0 0] 29))
  have HB0 := Aside0.mk (HB.out.alloc HB.out.size (.cells #[.int .i64 0, .int .i64 0, .string ⟨#[]⟩, .slice none 0 0] 29))
  have HS0 : Aside0 (RdS w0 (w.alloc (.cells #[.int .i64 0, .int .i64 0, .string ⟨#[]⟩, .slice none 0 0] 29)) g l) := ⟨by obtain ⟨A, c, h, h2⟩ := HS.out; exact ⟨A, c, blk_alloc h _, h2⟩⟩
  subst hm
  go_enter Try.func34, Try.ntmps34
  go_wp2_with (first | (go_at_call 36; (refine (reader_head.calls w0 _ g l hb hg HB0.out HS0.out).mono ?_); rintro e w1 ⟨rfl, p3, p4, p5⟩; rw [hh.out] at p3 ⊢; dsimp only at p3 ⊢; (have P3 := Aside0.mk p3); (have P4 := Aside0.mk p4); (have P5 := Aside0.mk p5); clear p3 p4 p5; (have B4 := Aside0.mk (blk_kept (blk_new w _) P5.out (fun e_ => Nat.ne_of_gt HGL.out e_))); (have hc0 : w1.cell? ⟨w.heap.size, 0, none⟩ = some (.int .i64 0) := (blk_cell B4.out 0).trans rfl); (have hc1 : w1.cell? ⟨w.heap.size, 1, none⟩ = some (.int .i64 0) := (blk_cell B4.out 1).trans rfl); (have hc2 : w1.cell? ⟨w.heap.size, 2, none⟩ = some (.string ⟨#[]⟩) := (blk_cell B4.out 2).trans rfl); (have hc3 : w1.cell? ⟨w.heap.size, 3, none⟩ = some (.slice none 0 0) := (blk_cell B4.out 3).trans rfl); (have hf0 := blk_frozen B4.out 0); (have hf1 := blk_frozen B4.out 1); (have hf2 := blk_frozen B4.out 2); (have hf3 := blk_frozen B4.out 3)))
  refine value_end (w := w) (ok := false) ?_ ?_ (st4_blk B4.out (.int .i64 0) (.int .i64 0) (.string ⟨#[]⟩) (.slice none 0 0)) ?_
  · rfl
  · rfl
  exact ⟨.slice none 0 0, rfl, Kd.R_nil _ _ _ _ _, RdS.kept P3.out (st4_kept (Kept.refl w1 (fun k => k = w.heap.size)) (.inl rfl) _ _ _ _) (fun e_ => Nat.ne_of_lt HGL.out e_), st4_below P4.out HB.out.size _ _ _ _, st4_kept (Kept.transE HK0.out P5.out) (.inr (Nat.le_refl _)) _ _ _ _⟩
set_option maxHeartbeats 3200000 in
set_option maxRecDepth 100000 in
theorem value_int (w0 w : World) (g : Nat) (l : List Int) (m : Int) (hb : Bytes l) (hg : w0.heap.size ≤ g) (hB : Below w0.heap.size w0 w) (hs : RdS w0 w g l) (n : Int) (l1 : List Int) (i : Int) (hh : Aside0 (rheadS l = (1, n, true, l1))) (hm : ¬ m = 0) (hi : Aside0 (codec_integer.f n = some i)) :
    Calls Try.prog 34 #[.pointer (some ⟨g, 0, none⟩), .int .i64 m] w fun e w' => ∃ v, (e = .returned (.tuple #[.agg #[.int .i64 1, .int .i64 i, .string ⟨#[]⟩, v], .bool true]) ∧ v = .slice none 0 0) ∧ Kd.R k29 29 w' w.heap.size (fun k => w.heap.size ≤ k) v [] ∧ RdS w0 w' g l1 ∧ Below w0.heap.size w0 w' ∧ Kept w w' (fun k => k = g) := by
  have HS := Aside0.mk hs
  have HB := Aside0.mk hB
  have hgl : g < w.heap.size := by obtain ⟨A, c, h, _⟩ := hs; exact blk_lt h
  have HGL := Aside0.mk hgl
  clear hs hB hgl
  have HK0 := Aside0.mk ((Kept.refl w (fun k => k = g)).alloc (.cells #[.int .i64 0, .int .i64 0, .string ⟨#[]⟩, .slice none 0 0] 29))
  have HB0 := Aside0.mk (HB.out.alloc HB.out.size (.cells #[.int .i64 0, .int .i64 0, .string ⟨#[]⟩, .slice none 0 0] 29))
  have HS0 : Aside0 (RdS w0 (w.alloc (.cells #[.int .i64 0, .int .i64 0, .string ⟨#[]⟩, .slice none 0 0] 29)) g l) := ⟨by obtain ⟨A, c, h, h2⟩ := HS.out; exact ⟨A, c, blk_alloc h _, h2⟩⟩
  have b0 : (m == 0) = false := beq_eq_false_iff_ne.2 hm
  clear hm
  go_enter Try.func34, Try.ntmps34
  go_wp2_with (first | (go_at_call 36; (refine (reader_head.calls w0 _ g l hb hg HB0.out HS0.out).mono ?_); rintro e w1 ⟨rfl, p3, p4, p5⟩; rw [hh.out] at p3 ⊢; dsimp only at p3 ⊢; (have P3 := Aside0.mk p3); (have P4 := Aside0.mk p4); (have P5 := Aside0.mk p5); clear p3 p4 p5; (have B4 := Aside0.mk (blk_kept (blk_new w _) P5.out (fun e_ => Nat.ne_of_gt HGL.out e_))); (have hc0 : w1.cell? ⟨w.heap.size, 0, none⟩ = some (.int .i64 0) := (blk_cell B4.out 0).trans rfl); (have hc1 : w1.cell? ⟨w.heap.size, 1, none⟩ = some (.int .i64 0) := (blk_cell B4.out 1).trans rfl); (have hc2 : w1.cell? ⟨w.heap.size, 2, none⟩ = some (.string ⟨#[]⟩) := (blk_cell B4.out 2).trans rfl); (have hc3 : w1.cell? ⟨w.heap.size, 3, none⟩ = some (.slice none 0 0) := (blk_cell B4.out 3).trans rfl); (have hf0 := blk_frozen B4.out 0); (have hf1 := blk_frozen B4.out 1); (have hf2 := blk_frozen B4.out 2); (have hf3 := blk_frozen B4.out 3)) | (go_at_call 37; (refine (codec_integer.calls n i _ hi.out).mono ?_); rintro e w2 ⟨rfl, ⟨nd, rfl⟩⟩; (have B9 := Aside0.mk (blk_drewN (blk_new w1 (.cells #[.int .i64 1, .int .i64 0, .string ⟨#[]⟩, .slice none 0 0] 29)) nd)); (have B4' := Aside0.mk (blk_drewN (blk_alloc B4.out (.cells #[.int .i64 1, .int .i64 0, .string ⟨#[]⟩, .slice none 0 0] 29)) nd)); (have S' : Aside0 (RdS w0 ((w1.alloc (.cells #[.int .i64 1, .int .i64 0, .string ⟨#[]⟩, .slice none 0 0] 29)).drewN nd) g l1) := ⟨by obtain ⟨A, c, h, h2⟩ := P3.out; exact ⟨A, c, blk_alloc h _, h2⟩⟩); (have L' := Aside0.mk (pw_below_drewN (P4.out.alloc P4.out.size (.cells #[.int .i64 1, .int .i64 0, .string ⟨#[]⟩, .slice none 0 0] 29)) nd)); (have K' := Aside0.mk (((Kept.transE HK0.out P5.out).alloc (.cells #[.int .i64 1, .int .i64 0, .string ⟨#[]⟩, .slice none 0 0] 29)).drewN nd)); (have N49 := Aside0.mk (Nat.ne_of_lt (blk_lt B4.out))); (have hsz := Aside0.mk (show w.heap.size ≤ w1.heap.size from Nat.le_of_lt (blk_lt B4.out))); clear hc0 hc1 hc2 hc3 hf0 hf1 hf2 hf3; generalize hb9 : w1.heap.size = b9 at B9 N49 hsz ⊢; generalize (w1.alloc (.cells #[.int .i64 1, .int .i64 0, .string ⟨#[]⟩, .slice none 0 0] 29)).drewN nd = W2 at B9 B4' S' L' K' ⊢; clear hb9; (have hc0 : W2.cell? ⟨w.heap.size, 0, none⟩ = some (.int .i64 0) := (blk_cell B4'.out 0).trans rfl); (have hc1 : W2.cell? ⟨w.heap.size, 1, none⟩ = some (.int .i64 0) := (blk_cell B4'.out 1).trans rfl); (have hc2 : W2.cell? ⟨w.heap.size, 2, none⟩ = some (.string ⟨#[]⟩) := (blk_cell B4'.out 2).trans rfl); (have hc3 : W2.cell? ⟨w.heap.size, 3, none⟩ = some (.slice none 0 0) := (blk_cell B4'.out 3).trans rfl); (have hf0 := blk_frozen B4'.out 0); (have hf1 := blk_frozen B4'.out 1); (have hf2 := blk_frozen B4'.out 2); (have hf3 := blk_frozen B4'.out 3); (have hd0 : W2.cell? ⟨b9, 0, none⟩ = some (.int .i64 1) := (blk_cell B9.out 0).trans rfl); (have hd1 : W2.cell? ⟨b9, 1, none⟩ = some (.int .i64 0) := (blk_cell B9.out 1).trans rfl); (have hd2 : W2.cell? ⟨b9, 2, none⟩ = some (.string ⟨#[]⟩) := (blk_cell B9.out 2).trans rfl); (have hd3 : W2.cell? ⟨b9, 3, none⟩ = some (.slice none 0 0) := (blk_cell B9.out 3).trans rfl); (have hg1 := blk_frozen B9.out 1); (have hn1 := N49.out); (have hn2 := N49.out.symm)))
  have B4s := blk_far B4'.out (p := ⟨b9, 1, none⟩) N49.out (.int .i64 i)
  refine value_end (w := w) (ok := true) ?_ ?_ (st4_blk B4s (.int .i64 1) (.int .i64 i) (.string ⟨#[]⟩) (.slice none 0 0)) ?_
  · rfl
  · rfl
  exact ⟨.slice none 0 0, ⟨rfl, rfl⟩, Kd.R_nil _ _ _ _ _, RdS.kept S'.out (st4_kept ((Kept.refl W2 (fun k => k = w.heap.size ∨ k = b9)).setCell (p := ⟨b9, 1, none⟩) (.inl (.inr rfl)) _) (.inl (.inl rfl)) _ _ _ _) (fun e_ => by have := HGL.out; have := hsz.out; rcases e_ with e_ | e_ <;> omega), st4_below (L'.out.setCell (p := ⟨b9, 1, none⟩) (Nat.le_trans HB.out.size hsz.out) _) HB.out.size _ _ _ _, st4_kept (K'.out.setCell (p := ⟨b9, 1, none⟩) (.inr hsz.out) _) (.inr (Nat.le_refl _)) _ _ _ _⟩
set_option maxHeartbeats 3200000 in
set_option maxRecDepth 100000 in
theorem value_fail2 (w0 w : World) (g : Nat) (l : List Int) (m : Int) (hb : Bytes l) (hg : w0.heap.size ≤ g) (hB : Below w0.heap.size w0 w) (hs : RdS w0 w g l) (kd n : Int) (l1 : List Int) (hh : Aside0 (rheadS l = (kd, n, true, l1))) (hm : ¬ m = 0) (k1 : ¬ kd = 1) (k2 : ¬ kd = 2) (k3 : ¬ kd = 3) :
    Calls Try.prog 34 #[.pointer (some ⟨g, 0, none⟩), .int .i64 m] w fun e w' => ∃ v, e = .returned (.tuple #[.agg #[.int .i64 0, .int .i64 0, .string ⟨#[]⟩, v], .bool false]) ∧ Kd.R k29 29 w' w.heap.size (fun k => w.heap.size ≤ k) v [] ∧ RdS w0 w' g l1 ∧ Below w0.heap.size w0 w' ∧ Kept w w' (fun k => k = g) := by
  have HS := Aside0.mk hs
  have HB := Aside0.mk hB
  have hgl : g < w.heap.size := by obtain ⟨A, c, h, _⟩ := hs; exact blk_lt h
  have HGL := Aside0.mk hgl
  clear hs hB hgl
  have HK0 := Aside0.mk ((Kept.refl w (fun k => k = g)).alloc (.cells #[.int .i64 0, .int .i64 0, .string ⟨#[]⟩, .slice none 0 0] 29))
  have HB0 := Aside0.mk (HB.out.alloc HB.out.size (.cells #[.int .i64 0, .int .i64 0, .string ⟨#[]⟩, .slice none 0 0] 29))
  have HS0 : Aside0 (RdS w0 (w.alloc (.cells #[.int .i64 0, .int .i64 0, .string ⟨#[]⟩, .slice none 0 0] 29)) g l) := ⟨by obtain ⟨A, c, h, h2⟩ := HS.out; exact ⟨A, c, blk_alloc h _, h2⟩⟩
  have b0 : (m == 0) = false := beq_eq_false_iff_ne.2 hm
  have b1 : (kd == 1) = false := beq_eq_false_iff_ne.2 k1
  have b2 : (kd == 2) = false := beq_eq_false_iff_ne.2 k2
  have b3 : (kd == 3) = false := beq_eq_false_iff_ne.2 k3
  clear hm k1 k2 k3
  go_enter Try.func34, Try.ntmps34
  go_wp2_with (first | (go_at_call 36; (refine (reader_head.calls w0 _ g l hb hg HB0.out HS0.out).mono ?_); rintro e w1 ⟨rfl, p3, p4, p5⟩; rw [hh.out] at p3 ⊢; dsimp only at p3 ⊢; (have P3 := Aside0.mk p3); (have P4 := Aside0.mk p4); (have P5 := Aside0.mk p5); clear p3 p4 p5; (have B4 := Aside0.mk (blk_kept (blk_new w _) P5.out (fun e_ => Nat.ne_of_gt HGL.out e_))); (have hc0 : w1.cell? ⟨w.heap.size, 0, none⟩ = some (.int .i64 0) := (blk_cell B4.out 0).trans rfl); (have hc1 : w1.cell? ⟨w.heap.size, 1, none⟩ = some (.int .i64 0) := (blk_cell B4.out 1).trans rfl); (have hc2 : w1.cell? ⟨w.heap.size, 2, none⟩ = some (.string ⟨#[]⟩) := (blk_cell B4.out 2).trans rfl); (have hc3 : w1.cell? ⟨w.heap.size, 3, none⟩ = some (.slice none 0 0) := (blk_cell B4.out 3).trans rfl); (have hf0 := blk_frozen B4.out 0); (have hf1 := blk_frozen B4.out 1); (have hf2 := blk_frozen B4.out 2); (have hf3 := blk_frozen B4.out 3); (have BY := Aside0.mk (blk_alloc B4.out (.cells #[.int .i64 kd, .int .i64 0, .string ⟨#[]⟩, .slice none 0 0] 29))); (have hy0 : (w1.alloc (.cells #[.int .i64 kd, .int .i64 0, .string ⟨#[]⟩, .slice none 0 0] 29)).cell? ⟨w.heap.size, 0, none⟩ = some (.int .i64 0) := (blk_cell BY.out 0).trans rfl); (have hy1 : (w1.alloc (.cells #[.int .i64 kd, .int .i64 0, .string ⟨#[]⟩, .slice none 0 0] 29)).cell? ⟨w.heap.size, 1, none⟩ = some (.int .i64 0) := (blk_cell BY.out 1).trans rfl); (have hy2 : (w1.alloc (.cells #[.int .i64 kd, .int .i64 0, .string ⟨#[]⟩, .slice none 0 0] 29)).cell? ⟨w.heap.size, 2, none⟩ = some (.string ⟨#[]⟩) := (blk_cell BY.out 2).trans rfl); (have hy3 : (w1.alloc (.cells #[.int .i64 kd, .int .i64 0, .string ⟨#[]⟩, .slice none 0 0] 29)).cell? ⟨w.heap.size, 3, none⟩ = some (.slice none 0 0) := (blk_cell BY.out 3).trans rfl); (have hyf0 := blk_frozen BY.out 0); (have hyf1 := blk_frozen BY.out 1); (have hyf2 := blk_frozen BY.out 2); (have hyf3 := blk_frozen BY.out 3)))
  refine value_end (w := w) (ok := false) ?_ ?_ (st4_blk (blk_alloc B4.out (.cells #[.int .i64 kd, .int .i64 0, .string ⟨#[]⟩, .slice none 0 0] 29)) (.int .i64 0) (.int .i64 0) (.string ⟨#[]⟩) (.slice none 0 0)) ?_
  · rfl
  · rfl
  exact ⟨.slice none 0 0, rfl, Kd.R_nil _ _ _ _ _, RdS.kept P3.out (st4_kept ((Kept.refl w1 (fun k => k = w.heap.size)).alloc _) (.inl rfl) _ _ _ _) (fun e_ => Nat.ne_of_lt HGL.out e_), st4_below (P4.out.alloc P4.out.size _) HB.out.size _ _ _ _, st4_kept ((Kept.transE HK0.out P5.out).alloc _) (.inr (Nat.le_refl _)) _ _ _ _⟩
set_option maxHeartbeats 3200000 in
set_option maxRecDepth 100000 in
theorem value_text0 (w0 w : World) (g : Nat) (l : List Int) (m : Int) (hb : Bytes l) (hg : w0.heap.size ≤ g) (hB : Below w0.heap.size w0 w) (hs : RdS w0 w g l) (n : Int) (l1 o l2 : List Int) (hn0 : 0 ≤ n) (hh : Aside0 (rheadS l = (2, n, true, l1))) (hm : ¬ m = 0) (ht : Aside0 (takeS n l1 = (o, false, l2))) :
    Calls Try.prog 34 #[.pointer (some ⟨g, 0, none⟩), .int .i64 m] w fun e w' => ∃ v, e = .returned (.tuple #[.agg #[.int .i64 0, .int .i64 0, .string ⟨#[]⟩, v], .bool false]) ∧ Kd.R k29 29 w' w.heap.size (fun k => w.heap.size ≤ k) v [] ∧ RdS w0 w' g l2 ∧ Below w0.heap.size w0 w' ∧ Kept w w' (fun k => k = g) := by
  have HS := Aside0.mk hs
  have HB := Aside0.mk hB
  have hgl : g < w.heap.size := by obtain ⟨A, c, h, _⟩ := hs; exact blk_lt h
  have HGL := Aside0.mk hgl
  clear hs hB hgl
  have HK0 := Aside0.mk ((Kept.refl w (fun k => k = g)).alloc (.cells #[.int .i64 0, .int .i64 0, .string ⟨#[]⟩, .slice none 0 0] 29))
  have HB0 := Aside0.mk (HB.out.alloc HB.out.size (.cells #[.int .i64 0, .int .i64 0, .string ⟨#[]⟩, .slice none 0 0] 29))
  have HS0 : Aside0 (RdS w0 (w.alloc (.cells #[.int .i64 0, .int .i64 0, .string ⟨#[]⟩, .slice none 0 0] 29)) g l) := ⟨by obtain ⟨A, c, h, h2⟩ := HS.out; exact ⟨A, c, blk_alloc h _, h2⟩⟩
  have b0 : (m == 0) = false := beq_eq_false_iff_ne.2 hm
  clear hm
  go_enter Try.func34, Try.ntmps34
  go_wp2_with (first | (go_at_call 36; (refine (reader_head.calls w0 _ g l hb hg HB0.out HS0.out).mono ?_); rintro e w1 ⟨rfl, p3, p4, p5⟩; rw [hh.out] at p3 ⊢; dsimp only at p3 ⊢; (have P3 := Aside0.mk p3); (have P4 := Aside0.mk p4); (have P5 := Aside0.mk p5); clear p3 p4 p5; (have B4 := Aside0.mk (blk_kept (blk_new w _) P5.out (fun e_ => Nat.ne_of_gt HGL.out e_))); (have hc0 : w1.cell? ⟨w.heap.size, 0, none⟩ = some (.int .i64 0) := (blk_cell B4.out 0).trans rfl); (have hc1 : w1.cell? ⟨w.heap.size, 1, none⟩ = some (.int .i64 0) := (blk_cell B4.out 1).trans rfl); (have hc2 : w1.cell? ⟨w.heap.size, 2, none⟩ = some (.string ⟨#[]⟩) := (blk_cell B4.out 2).trans rfl); (have hc3 : w1.cell? ⟨w.heap.size, 3, none⟩ = some (.slice none 0 0) := (blk_cell B4.out 3).trans rfl); (have hf0 := blk_frozen B4.out 0); (have hf1 := blk_frozen B4.out 1); (have hf2 := blk_frozen B4.out 2); (have hf3 := blk_frozen B4.out 3); (have BY := Aside0.mk (blk_alloc B4.out (.cells #[.int .i64 2, .int .i64 0, .string ⟨#[]⟩, .slice none 0 0] 29))); (have hy0 : (w1.alloc (.cells #[.int .i64 2, .int .i64 0, .string ⟨#[]⟩, .slice none 0 0] 29)).cell? ⟨w.heap.size, 0, none⟩ = some (.int .i64 0) := (blk_cell BY.out 0).trans rfl); (have hy1 : (w1.alloc (.cells #[.int .i64 2, .int .i64 0, .string ⟨#[]⟩, .slice none 0 0] 29)).cell? ⟨w.heap.size, 1, none⟩ = some (.int .i64 0) := (blk_cell BY.out 1).trans rfl); (have hy2 : (w1.alloc (.cells #[.int .i64 2, .int .i64 0, .string ⟨#[]⟩, .slice none 0 0] 29)).cell? ⟨w.heap.size, 2, none⟩ = some (.string ⟨#[]⟩) := (blk_cell BY.out 2).trans rfl); (have hy3 : (w1.alloc (.cells #[.int .i64 2, .int .i64 0, .string ⟨#[]⟩, .slice none 0 0] 29)).cell? ⟨w.heap.size, 3, none⟩ = some (.slice none 0 0) := (blk_cell BY.out 3).trans rfl); (have hyf0 := blk_frozen BY.out 0); (have hyf1 := blk_frozen BY.out 1); (have hyf2 := blk_frozen BY.out 2); (have hyf3 := blk_frozen BY.out 3)) | (go_at_call 38; (refine (reader_take.calls w0 _ g l1 n hn0 hg (P4.out.alloc P4.out.size (.cells #[.int .i64 2, .int .i64 0, .string ⟨#[]⟩, .slice none 0 0] 29)) (by obtain ⟨A, c, h, h2⟩ := P3.out; exact ⟨A, c, blk_alloc h _, h2⟩)).mono ?_); rintro e w3 ⟨A5, c5, rfl, q1, q2, q3, q4, q5⟩; rw [ht.out] at q1 q2 q3 ⊢; dsimp only at q1 q2 q3 ⊢; (have Q3 := Aside0.mk q3); (have Q4 := Aside0.mk q4); (have N49 := Aside0.mk (Nat.ne_of_lt (blk_lt B4.out))); (have hsz := Aside0.mk (show w.heap.size ≤ w1.heap.size from Nat.le_of_lt (blk_lt B4.out))); (have B9 := Aside0.mk (blk_kept (blk_new w1 (.cells #[.int .i64 2, .int .i64 0, .string ⟨#[]⟩, .slice none 0 0] 29)) q5 (fun e_ => by have := HGL.out; have := hsz.out; omega))); (have B4' := Aside0.mk (blk_kept (blk_alloc B4.out (.cells #[.int .i64 2, .int .i64 0, .string ⟨#[]⟩, .slice none 0 0] 29)) q5 (fun e_ => Nat.ne_of_gt HGL.out e_))); (have K' := Aside0.mk (Kept.transE (Kept.transE HK0.out P5.out |>.alloc (.cells #[.int .i64 2, .int .i64 0, .string ⟨#[]⟩, .slice none 0 0] 29)) q5)); clear hy0 hy1 hy2 hy3 hyf0 hyf1 hyf2 hyf3 hc0 hc1 hc2 hc3 hf0 hf1 hf2 hf3; generalize w1.heap.size = b9 at B9 N49 hsz ⊢; (have hc0 : w3.cell? ⟨w.heap.size, 0, none⟩ = some (.int .i64 0) := (blk_cell B4'.out 0).trans rfl); (have hc1 : w3.cell? ⟨w.heap.size, 1, none⟩ = some (.int .i64 0) := (blk_cell B4'.out 1).trans rfl); (have hc2 : w3.cell? ⟨w.heap.size, 2, none⟩ = some (.string ⟨#[]⟩) := (blk_cell B4'.out 2).trans rfl); (have hc3 : w3.cell? ⟨w.heap.size, 3, none⟩ = some (.slice none 0 0) := (blk_cell B4'.out 3).trans rfl); (have hf0 := blk_frozen B4'.out 0); (have hf1 := blk_frozen B4'.out 1); (have hf2 := blk_frozen B4'.out 2); (have hf3 := blk_frozen B4'.out 3); (have hd0 : w3.cell? ⟨b9, 0, none⟩ = some (.int .i64 2) := (blk_cell B9.out 0).trans rfl); (have hd1 : w3.cell? ⟨b9, 1, none⟩ = some (.int .i64 0) := (blk_cell B9.out 1).trans rfl); (have hd2 : w3.cell? ⟨b9, 2, none⟩ = some (.string ⟨#[]⟩) := (blk_cell B9.out 2).trans rfl); (have hd3 : w3.cell? ⟨b9, 3, none⟩ = some (.slice none 0 0) := (blk_cell B9.out 3).trans rfl); (have hg2 := blk_frozen B9.out 2); (have hn1 := N49.out); (have hn2 := N49.out.symm)))
  refine value_end (w := w) (ok := false) ?_ ?_ (st4_blk B4'.out (.int .i64 0) (.int .i64 0) (.string ⟨#[]⟩) (.slice none 0 0)) ?_
  · rfl
  · rfl
  exact ⟨.slice none 0 0, rfl, Kd.R_nil _ _ _ _ _, RdS.kept Q3.out (st4_kept (Kept.refl w3 (fun k => k = w.heap.size)) (.inl rfl) _ _ _ _) (fun e_ => Nat.ne_of_lt HGL.out e_), st4_below Q4.out HB.out.size _ _ _ _, st4_kept K'.out (.inr (Nat.le_refl _)) _ _ _ _⟩
set_option maxHeartbeats 3200000 in
set_option maxRecDepth 100000 in
theorem value_text1 (w0 w : World) (g : Nat) (l : List Int) (m : Int) (hb : Bytes l) (hg : w0.heap.size ≤ g) (hB : Below w0.heap.size w0 w) (hs : RdS w0 w g l) (n : Int) (l1 o l2 : List Int) (hn0 : 0 ≤ n) (hh : Aside0 (rheadS l = (2, n, true, l1))) (hm : ¬ m = 0) (ht : Aside0 (takeS n l1 = (o, true, l2))) :
    Calls Try.prog 34 #[.pointer (some ⟨g, 0, none⟩), .int .i64 m] w fun e w' => ∃ v, e = .returned (.tuple #[.agg #[.int .i64 2, .int .i64 0, .string (strOfNums o), v], .bool true]) ∧ Kd.R k29 29 w' w.heap.size (fun k => w.heap.size ≤ k) v [] ∧ RdS w0 w' g l2 ∧ Below w0.heap.size w0 w' ∧ Kept w w' (fun k => k = g) := by
  have HS := Aside0.mk hs
  have HB := Aside0.mk hB
  have hgl : g < w.heap.size := by obtain ⟨A, c, h, _⟩ := hs; exact blk_lt h
  have HGL := Aside0.mk hgl
  clear hs hB hgl
  have HK0 := Aside0.mk ((Kept.refl w (fun k => k = g)).alloc (.cells #[.int .i64 0, .int .i64 0, .string ⟨#[]⟩, .slice none 0 0] 29))
  have HB0 := Aside0.mk (HB.out.alloc HB.out.size (.cells #[.int .i64 0, .int .i64 0, .string ⟨#[]⟩, .slice none 0 0] 29))
  have HS0 : Aside0 (RdS w0 (w.alloc (.cells #[.int .i64 0, .int .i64 0, .string ⟨#[]⟩, .slice none 0 0] 29)) g l) := ⟨by obtain ⟨A, c, h, h2⟩ := HS.out; exact ⟨A, c, blk_alloc h _, h2⟩⟩
  have b0 : (m == 0) = false := beq_eq_false_iff_ne.2 hm
  clear hm
  go_enter Try.func34, Try.ntmps34
  go_wp2_with (first | (go_at_call 36; (refine (reader_head.calls w0 _ g l hb hg HB0.out HS0.out).mono ?_); rintro e w1 ⟨rfl, p3, p4, p5⟩; rw [hh.out] at p3 ⊢; dsimp only at p3 ⊢; (have P3 := Aside0.mk p3); (have P4 := Aside0.mk p4); (have P5 := Aside0.mk p5); clear p3 p4 p5; (have B4 := Aside0.mk (blk_kept (blk_new w _) P5.out (fun e_ => Nat.ne_of_gt HGL.out e_))); (have hc0 : w1.cell? ⟨w.heap.size, 0, none⟩ = some (.int .i64 0) := (blk_cell B4.out 0).trans rfl); (have hc1 : w1.cell? ⟨w.heap.size, 1, none⟩ = some (.int .i64 0) := (blk_cell B4.out 1).trans rfl); (have hc2 : w1.cell? ⟨w.heap.size, 2, none⟩ = some (.string ⟨#[]⟩) := (blk_cell B4.out 2).trans rfl); (have hc3 : w1.cell? ⟨w.heap.size, 3, none⟩ = some (.slice none 0 0) := (blk_cell B4.out 3).trans rfl); (have hf0 := blk_frozen B4.out 0); (have hf1 := blk_frozen B4.out 1); (have hf2 := blk_frozen B4.out 2); (have hf3 := blk_frozen B4.out 3); (have BY := Aside0.mk (blk_alloc B4.out (.cells #[.int .i64 2, .int .i64 0, .string ⟨#[]⟩, .slice none 0 0] 29))); (have hy0 : (w1.alloc (.cells #[.int .i64 2, .int .i64 0, .string ⟨#[]⟩, .slice none 0 0] 29)).cell? ⟨w.heap.size, 0, none⟩ = some (.int .i64 0) := (blk_cell BY.out 0).trans rfl); (have hy1 : (w1.alloc (.cells #[.int .i64 2, .int .i64 0, .string ⟨#[]⟩, .slice none 0 0] 29)).cell? ⟨w.heap.size, 1, none⟩ = some (.int .i64 0) := (blk_cell BY.out 1).trans rfl); (have hy2 : (w1.alloc (.cells #[.int .i64 2, .int .i64 0, .string ⟨#[]⟩, .slice none 0 0] 29)).cell? ⟨w.heap.size, 2, none⟩ = some (.string ⟨#[]⟩) := (blk_cell BY.out 2).trans rfl); (have hy3 : (w1.alloc (.cells #[.int .i64 2, .int .i64 0, .string ⟨#[]⟩, .slice none 0 0] 29)).cell? ⟨w.heap.size, 3, none⟩ = some (.slice none 0 0) := (blk_cell BY.out 3).trans rfl); (have hyf0 := blk_frozen BY.out 0); (have hyf1 := blk_frozen BY.out 1); (have hyf2 := blk_frozen BY.out 2); (have hyf3 := blk_frozen BY.out 3)) | (go_at_call 38; (refine (reader_take.calls w0 _ g l1 n hn0 hg (P4.out.alloc P4.out.size (.cells #[.int .i64 2, .int .i64 0, .string ⟨#[]⟩, .slice none 0 0] 29)) (by obtain ⟨A, c, h, h2⟩ := P3.out; exact ⟨A, c, blk_alloc h _, h2⟩)).mono ?_); rintro e w3 ⟨A5, c5, rfl, q1, q2, q3, q4, q5⟩; rw [ht.out] at q1 q2 q3 ⊢; dsimp only at q1 q2 q3 ⊢; (have Q3 := Aside0.mk q3); (have Q4 := Aside0.mk q4); (have N49 := Aside0.mk (Nat.ne_of_lt (blk_lt B4.out))); (have hsz := Aside0.mk (show w.heap.size ≤ w1.heap.size from Nat.le_of_lt (blk_lt B4.out))); (have B9 := Aside0.mk (blk_kept (blk_new w1 (.cells #[.int .i64 2, .int .i64 0, .string ⟨#[]⟩, .slice none 0 0] 29)) q5 (fun e_ => by have := HGL.out; have := hsz.out; omega))); (have B4' := Aside0.mk (blk_kept (blk_alloc B4.out (.cells #[.int .i64 2, .int .i64 0, .string ⟨#[]⟩, .slice none 0 0] 29)) q5 (fun e_ => Nat.ne_of_gt HGL.out e_))); (have K' := Aside0.mk (Kept.transE (Kept.transE HK0.out P5.out |>.alloc (.cells #[.int .i64 2, .int .i64 0, .string ⟨#[]⟩, .slice none 0 0] 29)) q5)); clear hy0 hy1 hy2 hy3 hyf0 hyf1 hyf2 hyf3 hc0 hc1 hc2 hc3 hf0 hf1 hf2 hf3; generalize w1.heap.size = b9 at B9 N49 hsz ⊢; (have hc0 : w3.cell? ⟨w.heap.size, 0, none⟩ = some (.int .i64 0) := (blk_cell B4'.out 0).trans rfl); (have hc1 : w3.cell? ⟨w.heap.size, 1, none⟩ = some (.int .i64 0) := (blk_cell B4'.out 1).trans rfl); (have hc2 : w3.cell? ⟨w.heap.size, 2, none⟩ = some (.string ⟨#[]⟩) := (blk_cell B4'.out 2).trans rfl); (have hc3 : w3.cell? ⟨w.heap.size, 3, none⟩ = some (.slice none 0 0) := (blk_cell B4'.out 3).trans rfl); (have hf0 := blk_frozen B4'.out 0); (have hf1 := blk_frozen B4'.out 1); (have hf2 := blk_frozen B4'.out 2); (have hf3 := blk_frozen B4'.out 3); (have hd0 : w3.cell? ⟨b9, 0, none⟩ = some (.int .i64 2) := (blk_cell B9.out 0).trans rfl); (have hd1 : w3.cell? ⟨b9, 1, none⟩ = some (.int .i64 0) := (blk_cell B9.out 1).trans rfl); (have hd2 : w3.cell? ⟨b9, 2, none⟩ = some (.string ⟨#[]⟩) := (blk_cell B9.out 2).trans rfl); (have hd3 : w3.cell? ⟨b9, 3, none⟩ = some (.slice none 0 0) := (blk_cell B9.out 3).trans rfl); (have hg2 := blk_frozen B9.out 2); (have hn1 := N49.out); (have hn2 := N49.out.symm); (have hcv := Kd.C_string (P := Try.prog) (c := c5) Try.underlying31 Try.underlying5 Try.underlying9 (Kd.C_below q1 q4))))
  have B4s := blk_far B4'.out (p := ⟨b9, 2, none⟩) N49.out (.string (strOfNums o))
  refine value_end (w := w) (ok := true) ?_ ?_ (st4_blk B4s (.int .i64 2) (.int .i64 0) (.string (strOfNums o)) (.slice none 0 0)) ?_
  · rfl
  · rfl
  exact ⟨.slice none 0 0, rfl, Kd.R_nil _ _ _ _ _, RdS.kept Q3.out (st4_kept ((Kept.refl w3 (fun k => k = w.heap.size ∨ k = b9)).setCell (p := ⟨b9, 2, none⟩) (.inl (.inr rfl)) _) (.inl (.inl rfl)) _ _ _ _) (fun e_ => by have := HGL.out; have := hsz.out; rcases e_ with e_ | e_ <;> omega), st4_below (Q4.out.setCell (p := ⟨b9, 2, none⟩) (Nat.le_trans HB.out.size hsz.out) _) HB.out.size _ _ _ _, st4_kept (K'.out.setCell (p := ⟨b9, 2, none⟩) (.inr hsz.out) _) (.inr (Nat.le_refl _)) _ _ _ _⟩
theorem info29E : (Try.prog.info? 29).map (fun i => (i.zero, i.size, i.bytes)) = some (some (.agg #[(.int .i64 0), (.int .i64 0), (.string ⟨#[]⟩), (.slice none 0 0)]), 4, 56) := by kernel_rfl
def zV : S29 := ⟨0, 0, ⟨#[]⟩, []⟩
mutual
def rvalue : Nat → List Int → Int → Option (S29 × Bool × List Int)
  | 0, _, _ => none
  | k + 1, l, m => if (rheadS l).2.2.1 = false then some (zV, false, (rheadS l).2.2.2) else if m = 0 then some (zV, false, (rheadS l).2.2.2)
      else if (rheadS l).1 = 1 then ((codec_integer.f (rheadS l).2.1).bind fun i => some (⟨1, i, ⟨#[]⟩, []⟩, true, (rheadS l).2.2.2))
      else if (rheadS l).1 = 2 then (if (takeS (rheadS l).2.1 (rheadS l).2.2.2).2.1 = true then some (⟨2, 0, strOfNums (takeS (rheadS l).2.1 (rheadS l).2.2.2).1, []⟩, true, (takeS (rheadS l).2.1 (rheadS l).2.2.2).2.2) else some (zV, false, (takeS (rheadS l).2.1 (rheadS l).2.2.2).2.2))
      else if (rheadS l).1 = 3 then rlist k (rheadS l).2.2.2 (rheadS l).2.1 m []
      else some (zV, false, (rheadS l).2.2.2)
def rlist : Nat → List Int → Int → Int → List S29 → Option (S29 × Bool × List Int)
  | 0, _, _, _, _ => none
  | k + 1, l, n, m, acc => if n > 0 then ((rvalue k l (wrap64 (m - 1))).bind fun x => if x.2.1 = true then (if acc.length < 2513169434916 then rlist k x.2.2 (n - 1) m (acc ++ [x.1]) else none) else some (zV, false, x.2.2)) else some (⟨3, 0, ⟨#[]⟩, acc⟩, true, l)
end
/-- What value does in k steps. -/
def ValueC (k : Nat) : Prop := ∀ (w0 w : World) (g : Nat) (l : List Int) (m : Int) (hb : Bytes l) (hg : w0.heap.size ≤ g) (hB : Below w0.heap.size w0 w) (hs : RdS w0 w g l) (x : S29) (ok : Bool) (l1 : List Int) (h : rvalue k l m = some (x, ok, l1)),
    Calls Try.prog 34 #[.pointer (some ⟨g, 0, none⟩), .int .i64 m] w fun e w' => ∃ v, e = .returned (.tuple #[.agg #[.int .i64 x.f0, .int .i64 x.f1, .string x.f2, v], .bool ok]) ∧ Kd.R k29 29 w' w0.heap.size (fun k => w.heap.size ≤ k) v x.f3 ∧ RdS w0 w' g l1 ∧ Bytes l1 ∧ Below w0.heap.size w0 w' ∧ Kept w w' (fun k => k = g)
set_option maxHeartbeats 3200000 in
set_option maxRecDepth 100000 in
theorem value_list (w0 w : World) (g : Nat) (l : List Int) (m : Int) (hb : Bytes l) (hg : w0.heap.size ≤ g) (hB : Below w0.heap.size w0 w) (hs : RdS w0 w g l) (n : Int) (l1 : List Int) (hn0 : 0 ≤ n ∧ n < 18446744073709551616) (hb1 : Bytes l1) (hh : Aside0 (rheadS l = (3, n, true, l1))) (hm : ¬ m = 0) (k : Nat) (ih : ∀ j, j < k → ValueC j) (x : S29) (ok : Bool) (l2 : List Int) (hr : rlist k l1 n m [] = some (x, ok, l2)) :
    Calls Try.prog 34 #[.pointer (some ⟨g, 0, none⟩), .int .i64 m] w fun e w' => ∃ v, e = .returned (.tuple #[.agg #[.int .i64 x.f0, .int .i64 x.f1, .string x.f2, v], .bool ok]) ∧ Kd.R k29 29 w' w0.heap.size (fun k => w.heap.size ≤ k) v x.f3 ∧ RdS w0 w' g l2 ∧ Bytes l2 ∧ Below w0.heap.size w0 w' ∧ Kept w w' (fun k => k = g) := by
  have HS := Aside0.mk hs
  have HB := Aside0.mk hB
  have hgl : g < w.heap.size := by obtain ⟨A, c, h, _⟩ := hs; exact blk_lt h
  have HGL := Aside0.mk hgl
  clear hs hB hgl
  have HK0 := Aside0.mk ((Kept.refl w (fun k => k = g)).alloc (.cells #[.int .i64 0, .int .i64 0, .string ⟨#[]⟩, .slice none 0 0] 29))
  have HB0 := Aside0.mk (HB.out.alloc HB.out.size (.cells #[.int .i64 0, .int .i64 0, .string ⟨#[]⟩, .slice none 0 0] 29))
  have HS0 : Aside0 (RdS w0 (w.alloc (.cells #[.int .i64 0, .int .i64 0, .string ⟨#[]⟩, .slice none 0 0] 29)) g l) := ⟨by obtain ⟨A, c, h, h2⟩ := HS.out; exact ⟨A, c, blk_alloc h _, h2⟩⟩
  have b0 : (m == 0) = false := beq_eq_false_iff_ne.2 hm
  have HN := Aside0.mk hn0
  have HB1 := Aside0.mk hb1
  have HRL := Aside0.mk hr
  clear hm hn0 hb1 hr
  go_enter Try.func34, Try.ntmps34
  go_wp2_with (first | (go_at_call 36; (refine (reader_head.calls w0 _ g l hb hg HB0.out HS0.out).mono ?_); rintro e w1 ⟨rfl, p3, p4, p5⟩; rw [hh.out] at p3 ⊢; dsimp only at p3 ⊢; (have P3 := Aside0.mk p3); (have P4 := Aside0.mk p4); (have P5 := Aside0.mk p5); clear p3 p4 p5; (have B4 := Aside0.mk (blk_kept (blk_new w _) P5.out (fun e_ => Nat.ne_of_gt HGL.out e_))); (have hc0 : w1.cell? ⟨w.heap.size, 0, none⟩ = some (.int .i64 0) := (blk_cell B4.out 0).trans rfl); (have hc1 : w1.cell? ⟨w.heap.size, 1, none⟩ = some (.int .i64 0) := (blk_cell B4.out 1).trans rfl); (have hc2 : w1.cell? ⟨w.heap.size, 2, none⟩ = some (.string ⟨#[]⟩) := (blk_cell B4.out 2).trans rfl); (have hc3 : w1.cell? ⟨w.heap.size, 3, none⟩ = some (.slice none 0 0) := (blk_cell B4.out 3).trans rfl); (have hf0 := blk_frozen B4.out 0); (have hf1 := blk_frozen B4.out 1); (have hf2 := blk_frozen B4.out 2); (have hf3 := blk_frozen B4.out 3); (have BY := Aside0.mk (blk_alloc B4.out (.cells #[.int .i64 3, .int .i64 0, .string ⟨#[]⟩, .slice none 0 0] 29))); (have hy0 : (w1.alloc (.cells #[.int .i64 3, .int .i64 0, .string ⟨#[]⟩, .slice none 0 0] 29)).cell? ⟨w.heap.size, 0, none⟩ = some (.int .i64 0) := (blk_cell BY.out 0).trans rfl); (have hy1 : (w1.alloc (.cells #[.int .i64 3, .int .i64 0, .string ⟨#[]⟩, .slice none 0 0] 29)).cell? ⟨w.heap.size, 1, none⟩ = some (.int .i64 0) := (blk_cell BY.out 1).trans rfl); (have hy2 : (w1.alloc (.cells #[.int .i64 3, .int .i64 0, .string ⟨#[]⟩, .slice none 0 0] 29)).cell? ⟨w.heap.size, 2, none⟩ = some (.string ⟨#[]⟩) := (blk_cell BY.out 2).trans rfl); (have hy3 : (w1.alloc (.cells #[.int .i64 3, .int .i64 0, .string ⟨#[]⟩, .slice none 0 0] 29)).cell? ⟨w.heap.size, 3, none⟩ = some (.slice none 0 0) := (blk_cell BY.out 3).trans rfl); (have hyf0 := blk_frozen BY.out 0); (have hyf1 := blk_frozen BY.out 1); (have hyf2 := blk_frozen BY.out 2); (have hyf3 := blk_frozen BY.out 3)))
  have N49 := Aside0.mk (Nat.ne_of_lt (blk_lt B4.out))
  have hsz := Aside0.mk (show w.heap.size ≤ w1.heap.size from Nat.le_of_lt (blk_lt B4.out))
  have B9 := Aside0.mk (blk_new w1 (.cells #[.int .i64 3, .int .i64 0, .string ⟨#[]⟩, .slice none 0 0] 29))
  have B4' := Aside0.mk (blk_alloc B4.out (.cells #[.int .i64 3, .int .i64 0, .string ⟨#[]⟩, .slice none 0 0] 29))
  have K' := Aside0.mk ((Kept.transE HK0.out P5.out).alloc (.cells #[.int .i64 3, .int .i64 0, .string ⟨#[]⟩, .slice none 0 0] 29))
  have L' := Aside0.mk (P4.out.alloc P4.out.size (.cells #[.int .i64 3, .int .i64 0, .string ⟨#[]⟩, .slice none 0 0] 29))
  have S' : Aside0 (RdS w0 (w1.alloc (.cells #[.int .i64 3, .int .i64 0, .string ⟨#[]⟩, .slice none 0 0] 29)) g l1) := ⟨by obtain ⟨A, c, h, h2⟩ := P3.out; exact ⟨A, c, blk_alloc h _, h2⟩⟩
  clear hy0 hy1 hy2 hy3 hyf0 hyf1 hyf2 hyf3 hc0 hc1 hc2 hc3 hf0 hf1 hf2 hf3 BY P3 P4 P5 B4 HB0 HS0 HK0
  generalize w1.heap.size = b9 at B9 N49 hsz ⊢
  generalize w1.alloc (.cells #[.int .i64 3, .int .i64 0, .string ⟨#[]⟩, .slice none 0 0] 29) = W3 at B9 B4' K' L' S' ⊢
  go_loopg [7] k (fun kq v7 w' => ∃ (acc : List S29) (ln : List Int) (q : Int) (v : Value), v7 = .int .u64 q ∧ Aside0 (0 ≤ q ∧ q < 18446744073709551616) ∧ Aside0 (rlist kq ln q m acc = some (x, ok, l2)) ∧ Aside0 (kq ≤ k) ∧ Aside0 (Bytes ln) ∧ Aside0 (RdS w0 w' g ln) ∧ Aside0 (Kd.R k29 29 w' w0.heap.size (fun k => w.heap.size ≤ k ∧ k ≠ w.heap.size ∧ k ≠ b9) v acc) ∧ Aside0 (w'.heap[w.heap.size]? = some (.cells #[.int .i64 0, .int .i64 0, .string ⟨#[]⟩, .slice none 0 0] 29 (0, 0))) ∧ Aside0 (w'.heap[b9]? = some (.cells #[.int .i64 3, .int .i64 0, .string ⟨#[]⟩, v] 29 (0, 0))) ∧ Aside0 (Below w0.heap.size w0 w') ∧ Aside0 (Kept w w' (fun k => k = g)))
  case atStart => exact ⟨[], l1, n, .slice none 0 0, rfl, HN, HRL, ⟨Nat.le_refl _⟩, HB1, S', ⟨Kd.R_nil _ _ _ _ _⟩, B4', B9, L', K'⟩
  case round =>
    clear HRL
    obtain ⟨acc, ln, q, v, rfl, HQ, HA, HK1, HBL, HSR, HO, B4', B9, HBW, HKW⟩ := hrel
    cases gk with
    | zero => exact absurd HA.out (by simp [rlist])
    | succ k1 =>
      have H := HA.out
      clear HA
      simp only [rlist] at H
      obtain ⟨Ab, cb, rfl⟩ := Kd.R_slice HO.out
      have hc0 : wr.cell? ⟨w.heap.size, 0, none⟩ = some (.int .i64 0) := (blk_cell B4'.out 0).trans rfl
      have hc1 : wr.cell? ⟨w.heap.size, 1, none⟩ = some (.int .i64 0) := (blk_cell B4'.out 1).trans rfl
      have hc2 : wr.cell? ⟨w.heap.size, 2, none⟩ = some (.string ⟨#[]⟩) := (blk_cell B4'.out 2).trans rfl
      have hc3 : wr.cell? ⟨w.heap.size, 3, none⟩ = some (.slice none 0 0) := (blk_cell B4'.out 3).trans rfl
      have hf0 := blk_frozen B4'.out 0
      have hf1 := blk_frozen B4'.out 1
      have hf2 := blk_frozen B4'.out 2
      have hf3 := blk_frozen B4'.out 3
      have hd0 : wr.cell? ⟨b9, 0, none⟩ = some (.int .i64 3) := (blk_cell B9.out 0).trans rfl
      have hd1 : wr.cell? ⟨b9, 1, none⟩ = some (.int .i64 0) := (blk_cell B9.out 1).trans rfl
      have hd2 : wr.cell? ⟨b9, 2, none⟩ = some (.string ⟨#[]⟩) := (blk_cell B9.out 2).trans rfl
      have hd3 : wr.cell? ⟨b9, 3, none⟩ = some (.slice Ab acc.length cb) := (blk_cell B9.out 3).trans rfl
      by_cases c0 : q > 0
      · rw [if_pos c0] at H
        have e0 : decide (q > 0) = true := decide_eq_true c0
        have e1 : decide (0 < q) = true := decide_eq_true c0
        obtain ⟨⟨y, yok, ly⟩, A10, H⟩ := Option.bind_eq_some_iff.mp H
        have A1 := Aside0.mk A10
        have e2 : IntKind.u64.wrap (q - 1) = q - 1 := by rw [wuE]; have := HQ.out; omega
        have HQ1 : Aside0 (0 ≤ q - 1 ∧ q - 1 < 18446744073709551616) := ⟨by have := HQ.out; omega⟩
        clear A10 c0
        cases yok with
        | false =>
          rw [if_neg (by simp)] at H
          simp only [Option.some.injEq, Prod.mk.injEq] at H
          obtain ⟨rfl, rfl, rfl⟩ := H
          go_wp2_with (first | (go_at_call 34; (refine (ih k1 (by have := HK1.out; omega) w0 _ g ln (wrap64 (m - 1)) HBL.out hg HBW.out HSR.out y false ly A1.out).mono ?_); rintro e w4 ⟨v4, rfl, r1, r2, r3, r4, r5⟩; obtain ⟨A6, c6, rfl⟩ := Kd.R_slice r1; (have R1 := Aside0.mk r1); (have R2 := Aside0.mk r2); (have R3 := Aside0.mk r3); (have R4 := Aside0.mk r4); (have R5 := Aside0.mk (Kept.transE HKW.out r5)); (have LT4 := Aside0.mk (blk_lt B4'.out)); (have LT9 := Aside0.mk (blk_lt B9.out)); (have LTV := Aside0.mk (Kd.R_lt HO.out)); (have HO2 := Aside0.mk (Kd.R_kept HO.out r5 (fun k hk e_ => by have := HGL.out; have := hk.1; omega))); (have BZ := Aside0.mk (blk_kept B4'.out r5 (fun e_ => Nat.ne_of_gt HGL.out e_))); (have B9' := Aside0.mk (blk_kept B9.out r5 (fun e_ => by have := HGL.out; have := hsz.out; omega))); clear hc0 hc1 hc2 hc3 hf0 hf1 hf2 hf3 hd0 hd1 hd2 hd3 r1 r2 r3 r4 r5; (have BY := Aside0.mk (blk_alloc BZ.out (.cells #[.int .i64 y.f0, .int .i64 y.f1, .string y.f2, .slice A6 y.f3.length c6] 29))); (have hy0 : (w4.alloc (.cells #[.int .i64 y.f0, .int .i64 y.f1, .string y.f2, .slice A6 y.f3.length c6] 29)).cell? ⟨w.heap.size, 0, none⟩ = some (.int .i64 0) := (blk_cell BY.out 0).trans rfl); (have hy1 : (w4.alloc (.cells #[.int .i64 y.f0, .int .i64 y.f1, .string y.f2, .slice A6 y.f3.length c6] 29)).cell? ⟨w.heap.size, 1, none⟩ = some (.int .i64 0) := (blk_cell BY.out 1).trans rfl); (have hy2 : (w4.alloc (.cells #[.int .i64 y.f0, .int .i64 y.f1, .string y.f2, .slice A6 y.f3.length c6] 29)).cell? ⟨w.heap.size, 2, none⟩ = some (.string ⟨#[]⟩) := (blk_cell BY.out 2).trans rfl); (have hy3 : (w4.alloc (.cells #[.int .i64 y.f0, .int .i64 y.f1, .string y.f2, .slice A6 y.f3.length c6] 29)).cell? ⟨w.heap.size, 3, none⟩ = some (.slice none 0 0) := (blk_cell BY.out 3).trans rfl); (have hyf0 := blk_frozen BY.out 0); (have hyf1 := blk_frozen BY.out 1); (have hyf2 := blk_frozen BY.out 2); (have hyf3 := blk_frozen BY.out 3); (have BX := Aside0.mk (blk_alloc B9'.out (.cells #[.int .i64 y.f0, .int .i64 y.f1, .string y.f2, .slice A6 y.f3.length c6] 29))); (have hx3 : (w4.alloc (.cells #[.int .i64 y.f0, .int .i64 y.f1, .string y.f2, .slice A6 y.f3.length c6] 29)).cell? ⟨b9, 3, none⟩ = some (.slice Ab acc.length cb) := (blk_cell BX.out 3).trans rfl)))
          refine value_end (w := w) (ok := false) ?_ ?_ (st4_blk BY.out (.int .i64 0) (.int .i64 0) (.string ⟨#[]⟩) (.slice none 0 0)) ?_
          · rfl
          · rfl
          exact ⟨.slice none 0 0, rfl, Kd.R_nil _ _ _ _ _, RdS.kept R2.out (st4_kept ((Kept.refl w4 (fun k => k = w.heap.size)).alloc _) (.inl rfl) _ _ _ _) (fun e_ => Nat.ne_of_lt HGL.out e_), R3.out, st4_below (R4.out.alloc R4.out.size _) HB.out.size _ _ _ _, st4_kept (R5.out.alloc _) (.inr (Nat.le_refl _)) _ _ _ _⟩
        | true =>
          rw [if_pos rfl] at H
          by_cases c1 : acc.length < 2513169434916
          · rw [if_pos c1] at H
            have LMc := Aside0.mk c1
            have H' := Aside0.mk H
            clear c1 H
            go_wp2_with (first | (go_at_call 34; (refine (ih k1 (by have := HK1.out; omega) w0 _ g ln (wrap64 (m - 1)) HBL.out hg HBW.out HSR.out y true ly A1.out).mono ?_); rintro e w4 ⟨v4, rfl, r1, r2, r3, r4, r5⟩; obtain ⟨A6, c6, rfl⟩ := Kd.R_slice r1; (have R1 := Aside0.mk r1); (have R2 := Aside0.mk r2); (have R3 := Aside0.mk r3); (have R4 := Aside0.mk r4); (have R5 := Aside0.mk (Kept.transE HKW.out r5)); (have LT4 := Aside0.mk (blk_lt B4'.out)); (have LT9 := Aside0.mk (blk_lt B9.out)); (have LTV := Aside0.mk (Kd.R_lt HO.out)); (have HO2 := Aside0.mk (Kd.R_kept HO.out r5 (fun k hk e_ => by have := HGL.out; have := hk.1; omega))); (have BZ := Aside0.mk (blk_kept B4'.out r5 (fun e_ => Nat.ne_of_gt HGL.out e_))); (have B9' := Aside0.mk (blk_kept B9.out r5 (fun e_ => by have := HGL.out; have := hsz.out; omega))); clear hc0 hc1 hc2 hc3 hf0 hf1 hf2 hf3 hd0 hd1 hd2 hd3 r1 r2 r3 r4 r5; (have BY := Aside0.mk (blk_alloc BZ.out (.cells #[.int .i64 y.f0, .int .i64 y.f1, .string y.f2, .slice A6 y.f3.length c6] 29))); (have hy0 : (w4.alloc (.cells #[.int .i64 y.f0, .int .i64 y.f1, .string y.f2, .slice A6 y.f3.length c6] 29)).cell? ⟨w.heap.size, 0, none⟩ = some (.int .i64 0) := (blk_cell BY.out 0).trans rfl); (have hy1 : (w4.alloc (.cells #[.int .i64 y.f0, .int .i64 y.f1, .string y.f2, .slice A6 y.f3.length c6] 29)).cell? ⟨w.heap.size, 1, none⟩ = some (.int .i64 0) := (blk_cell BY.out 1).trans rfl); (have hy2 : (w4.alloc (.cells #[.int .i64 y.f0, .int .i64 y.f1, .string y.f2, .slice A6 y.f3.length c6] 29)).cell? ⟨w.heap.size, 2, none⟩ = some (.string ⟨#[]⟩) := (blk_cell BY.out 2).trans rfl); (have hy3 : (w4.alloc (.cells #[.int .i64 y.f0, .int .i64 y.f1, .string y.f2, .slice A6 y.f3.length c6] 29)).cell? ⟨w.heap.size, 3, none⟩ = some (.slice none 0 0) := (blk_cell BY.out 3).trans rfl); (have hyf0 := blk_frozen BY.out 0); (have hyf1 := blk_frozen BY.out 1); (have hyf2 := blk_frozen BY.out 2); (have hyf3 := blk_frozen BY.out 3); (have BX := Aside0.mk (blk_alloc B9'.out (.cells #[.int .i64 y.f0, .int .i64 y.f1, .string y.f2, .slice A6 y.f3.length c6] 29))); (have hx3 : (w4.alloc (.cells #[.int .i64 y.f0, .int .i64 y.f1, .string y.f2, .slice A6 y.f3.length c6] 29)).cell? ⟨b9, 3, none⟩ = some (.slice Ab acc.length cb) := (blk_cell BX.out 3).trans rfl)) | ((with_reducible refine gate_dst (N := 69) rfl ?_); (have HO5 := Aside0.mk (Kd.R_alloc HO2.out (.cells #[.int .i64 y.f0, .int .i64 y.f1, .string y.f2, .slice A6 y.f3.length c6] 29))); (have R15 := Aside0.mk (Kd.R_alloc R1.out (.cells #[.int .i64 y.f0, .int .i64 y.f1, .string y.f2, .slice A6 y.f3.length c6] 29))); (have HB5 := Aside0.mk (R4.out.alloc R4.out.size (.cells #[.int .i64 y.f0, .int .i64 y.f1, .string y.f2, .slice A6 y.f3.length c6] 29))); (have HK5 := Aside0.mk (R5.out.alloc (.cells #[.int .i64 y.f0, .int .i64 y.f1, .string y.f2, .slice A6 y.f3.length c6] 29))); (have S5 : Aside0 (RdS w0 (w4.alloc (.cells #[.int .i64 y.f0, .int .i64 y.f1, .string y.f2, .slice A6 y.f3.length c6] 29)) g ly) := ⟨by obtain ⟨A, c, h, h2⟩ := R2.out; exact ⟨A, c, blk_alloc h _, h2⟩⟩); clear HO2 R1 R2 R4 R5 BZ B9' hy0 hy1 hy2 hy3 hyf0 hyf1 hyf2 hyf3; generalize w4.alloc (.cells #[.int .i64 y.f0, .int .i64 y.f1, .string y.f2, .slice A6 y.f3.length c6] 29) = W5 at BY BX hx3 HO5 R15 HB5 HK5 S5 ⊢) | ((with_reducible refine gate_builtin (b := .append) (xs := #[.tmp 67, .tmp 69]) rfl ?_); (try (refine gate_guard (by rfl) ?_; dsimp only)); at_builtin; refine Kd.R_append k29 (w0 := w0) w0.heap.size rfl (.tmp 67) (.tmp 69) 27 29 (.agg #[(.int .i64 0), (.int .i64 0), (.string ⟨#[]⟩), (.slice none 0 0)]) 56 rfl Try.underlying27 info29E rfl (by decide) (by omega) (.slice Ab acc.length cb) acc y [.int .i64 y.f0, .int .i64 y.f1, .string y.f2, .slice A6 y.f3.length c6] (fun k => w.heap.size ≤ k ∧ k ≠ w.heap.size ∧ k ≠ b9) (fun k => (w.heap.size ≤ k ∧ k ≠ w.heap.size ∧ k ≠ b9) ∧ some k ≠ (Value.slice Ab acc.length cb).ownBlock) rfl rfl ?aP (fun _ hk => hk) ?aF ?aO ?aB ?aS ?aL ?_; (case aP => exact k29_mkM _ _ _ y (Kd.R_mono R15.out (fun k hk => by have h1 := LT4.out; have h2 := LT9.out; have h3 := HKW.out.1; exact ⟨⟨by omega, by omega, by omega⟩, fun e_ => by have := LTV.out k e_.symm; omega⟩))); (case aB => exact HB5.out); (case aF => intro k hk; have h1 := blk_lt BY.out; have h2 := blk_lt BX.out; exact ⟨by omega, by omega, by omega⟩); (case aO => exact HO5.out); (case aS => exact HB5.out.size); (case aL => have := LMc.out; omega); intro v7 w6 ho hb6 hg6 hat6; obtain ⟨A7, c7, rfl⟩ := Kd.R_slice ho; (have HO3 := Aside0.mk ho); (have HB6 := Aside0.mk hb6); (have BZ6 := Aside0.mk (blk_grown BY.out hg6 (Kd.R_away HO5.out (fun _ hk => hk.2.1)))); (have B96 := Aside0.mk (blk_grown BX.out hg6 (Kd.R_away HO5.out (fun _ hk => hk.2.2)))); (have HK6 := Aside0.mk (Kept.of_grown hg6 HK5.out (fun k e_ => .inr ((HO5.out.1 k e_).1)))); (have S6 : Aside0 (RdS w0 w6 g ly) := ⟨by obtain ⟨A, c, h, h2⟩ := S5.out; exact ⟨A, c, blk_grown h hg6 (Kd.R_away HO5.out (fun k hk e_ => by have := HGL.out; have := hk.1; omega)), h2⟩⟩); clear hx3 ho hb6 hg6 hat6 HO5 R15 HB5 HK5 S5 BY BX; (have hd3 : w6.cell? ⟨b9, 3, none⟩ = some (.slice Ab acc.length cb) := (blk_cell B96.out 3).trans rfl); (have hdf3 := blk_frozen B96.out 3)))
            go_roundg k1
            case measure => have := HK1.out; omega
            case rel => exact ⟨acc ++ [y], ly, q - 1, .slice A7 (acc ++ [y]).length c7, rfl, HQ1, H', ⟨by have := HK1.out; omega⟩, R3, ⟨RdS.kept S6.out ((Kept.refl w6 (fun k => k = b9)).setCell (p := ⟨b9, 3, none⟩) (.inl rfl) _) (fun e_ => by have := HGL.out; have := hsz.out; omega)⟩, ⟨Kd.R_kept HO3.out ((Kept.refl w6 (fun k => k = b9)).setCell (p := ⟨b9, 3, none⟩) (.inl rfl) _) (fun k hk e_ => hk.2.2 e_)⟩, ⟨blk_far BZ6.out (p := ⟨b9, 3, none⟩) N49.out _⟩, ⟨blk_put B96.out 3 _ (by rw [List.length_append]; rfl)⟩, ⟨HB6.out.setCell (p := ⟨b9, 3, none⟩) (Nat.le_trans HB.out.size hsz.out) _⟩, ⟨HK6.out.setCell (p := ⟨b9, 3, none⟩) (.inr hsz.out) _⟩⟩
          · rw [if_neg c1] at H
            cases H
      · rw [if_neg c0] at H
        have e0 : decide (q > 0) = false := decide_eq_false c0
        have e1 : decide (0 < q) = false := decide_eq_false c0
        clear c0
        simp only [Option.some.injEq, Prod.mk.injEq] at H
        obtain ⟨rfl, rfl, rfl⟩ := H
        go_wp2
        refine value_end (w := w) (ok := true) ?_ ?_ (st4_blk B4'.out (.int .i64 3) (.int .i64 0) (.string ⟨#[]⟩) (.slice Ab acc.length cb)) ?_
        · rfl
        · rfl
        exact ⟨.slice Ab acc.length cb, rfl, Kd.R_mono (Kd.R_kept HO.out (st4_kept (Kept.refl wr (fun k => k = w.heap.size)) (.inl rfl) _ _ _ _) (fun k hk e_ => hk.2.1 e_)) (fun _ hk => hk.1), RdS.kept HSR.out (st4_kept (Kept.refl wr (fun k => k = w.heap.size)) (.inl rfl) _ _ _ _) (fun e_ => Nat.ne_of_lt HGL.out e_), HBL.out, st4_below HBW.out HB.out.size _ _ _ _, st4_kept HKW.out (.inr (Nat.le_refl _)) _ _ _ _⟩
theorem Bytes.drop {l : List Int} (h : Bytes l) (n : Nat) : Bytes (l.drop n) := fun x hx => h x (List.mem_of_mem_drop hx)
theorem rhead_facts (l : List Int) (hb : Bytes l) : Bytes (rheadS l).2.2.2 ∧ 0 ≤ (rheadS l).2.1 ∧ (rheadS l).2.1 < 18446744073709551616 := by
  cases l with
  | nil => exact ⟨hb, by decide, by decide⟩
  | cons x r =>
    have hr : Bytes r := fun y hy => hb y (List.mem_cons_of_mem _ hy)
    have hx := hb x List.mem_cons_self
    simp only [rheadS]
    split
    · exact ⟨hr, by dsimp only; omega, by dsimp only; omega⟩
    · split
      · exact ⟨hr, by dsimp only; omega, by dsimp only; omega⟩
      · split
        · exact ⟨hr.drop _, by dsimp only; omega, by dsimp only; omega⟩
        · have hlen : (r.take (x % 64 - 55).toNat).length ≤ 8 := by rw [List.length_take]; omega
          have hbt : Bytes (r.take (x % 64 - 55).toNat) := fun y hy => hr y (List.mem_of_mem_take hy)
          refine ⟨hr.drop _, foldB_range _ hbt 0 (Int.le_refl _), ?_⟩
          have h1 := foldB_bound _ hbt 0 1 (Int.le_refl _) (by omega)
          rw [Int.one_mul] at h1
          have h2 : (256 : Int) ^ (r.take (x % 64 - 55).toNat).length ≤ 18446744073709551616 := by
            generalize (r.take (x % 64 - 55).toNat).length = q at hlen
            have : q = 0 ∨ q = 1 ∨ q = 2 ∨ q = 3 ∨ q = 4 ∨ q = 5 ∨ q = 6 ∨ q = 7 ∨ q = 8 := by omega
            rcases this with e | e | e | e | e | e | e | e | e <;> rw [e] <;> decide
          exact Int.lt_of_lt_of_le h1 h2
theorem take_bytes (n : Int) (l : List Int) (hb : Bytes l) : Bytes (takeS n l).2.2 := by
  unfold takeS
  split
  · exact hb
  · exact hb.drop _
theorem value_all : ∀ k, ValueC k := by
  intro k
  induction k using Nat.strongRecOn with
  | _ k ih =>
  intro w0 w g l m hb hg hB hs x ok l1 h
  cases k with
  | zero => simp [rvalue] at h
  | succ k =>
  have hf := rhead_facts l hb
  simp only [rvalue] at h
  have fin0 : ∀ (l2 : List Int), Bytes l2 → (∀ (Q : Prop), Q → Q) → (Calls Try.prog 34 #[.pointer (some ⟨g, 0, none⟩), .int .i64 m] w fun e w' => ∃ v, e = .returned (.tuple #[.agg #[.int .i64 0, .int .i64 0, .string ⟨#[]⟩, v], .bool false]) ∧ Kd.R k29 29 w' w.heap.size (fun k => w.heap.size ≤ k) v [] ∧ RdS w0 w' g l2 ∧ Below w0.heap.size w0 w' ∧ Kept w w' (fun k => k = g)) →
      Calls Try.prog 34 #[.pointer (some ⟨g, 0, none⟩), .int .i64 m] w fun e w' => ∃ v, e = .returned (.tuple #[.agg #[.int .i64 zV.f0, .int .i64 zV.f1, .string zV.f2, v], .bool false]) ∧ Kd.R k29 29 w' w0.heap.size (fun k => w.heap.size ≤ k) v zV.f3 ∧ RdS w0 w' g l2 ∧ Bytes l2 ∧ Below w0.heap.size w0 w' ∧ Kept w w' (fun k => k = g) := fun l2 hb2 _ hc => hc.mono fun e w' ⟨v, h1, h2, h3, h4, h5⟩ => ⟨v, h1, Kd.R_lower h2 hB.size, h3, hb2, h4, h5⟩
  by_cases c1 : (rheadS l).2.2.1 = false
  · rw [if_pos c1] at h
    simp only [Option.some.injEq, Prod.mk.injEq] at h
    obtain ⟨rfl, rfl, rfl⟩ := h
    exact fin0 _ hf.1 (fun _ h => h) (value_fail0 w0 w g l m hb hg hB hs (rheadS l).1 (rheadS l).2.1 _ ⟨by rw [← c1]⟩)
  rw [if_neg c1] at h
  have c1 : (rheadS l).2.2.1 = true := by simpa using c1
  by_cases c2 : m = 0
  · rw [if_pos c2] at h
    simp only [Option.some.injEq, Prod.mk.injEq] at h
    obtain ⟨rfl, rfl, rfl⟩ := h
    exact fin0 _ hf.1 (fun _ h => h) (value_fail1 w0 w g l m hb hg hB hs (rheadS l).1 (rheadS l).2.1 _ ⟨by rw [← c1]⟩ c2)
  rw [if_neg c2] at h
  by_cases k1 : (rheadS l).1 = 1
  · rw [if_pos k1] at h
    obtain ⟨i, hi, hx⟩ := Option.bind_eq_some_iff.1 h
    simp only [Option.some.injEq, Prod.mk.injEq] at hx
    obtain ⟨rfl, rfl, rfl⟩ := hx
    refine (value_int w0 w g l m hb hg hB hs (rheadS l).2.1 (rheadS l).2.2.2 i ⟨by rw [← c1, ← k1]⟩ c2 ⟨hi⟩).mono fun e w' ⟨v, h1, h2, h3, h4, h5⟩ => ?_
    exact ⟨v, h1.1, Kd.R_lower h2 hB.size, h3, hf.1, h4, h5⟩
  rw [if_neg k1] at h
  by_cases k2 : (rheadS l).1 = 2
  · rw [if_pos k2] at h
    by_cases t : (takeS (rheadS l).2.1 (rheadS l).2.2.2).2.1 = true
    · rw [if_pos t] at h
      simp only [Option.some.injEq, Prod.mk.injEq] at h
      obtain ⟨rfl, rfl, rfl⟩ := h
      refine (value_text1 w0 w g l m hb hg hB hs (rheadS l).2.1 (rheadS l).2.2.2 (takeS (rheadS l).2.1 (rheadS l).2.2.2).1 (takeS (rheadS l).2.1 (rheadS l).2.2.2).2.2 hf.2.1 ⟨by rw [← c1, ← k2]⟩ c2 ⟨by rw [← t]⟩).mono fun e w' ⟨v, h1, h2, h3, h4, h5⟩ => ?_
      exact ⟨v, h1, Kd.R_lower h2 hB.size, h3, take_bytes _ _ hf.1, h4, h5⟩
    · rw [if_neg t] at h
      simp only [Option.some.injEq, Prod.mk.injEq] at h
      obtain ⟨rfl, rfl, rfl⟩ := h
      have t : (takeS (rheadS l).2.1 (rheadS l).2.2.2).2.1 = false := by simpa using t
      exact fin0 _ (take_bytes _ _ hf.1) (fun _ h => h) (value_text0 w0 w g l m hb hg hB hs (rheadS l).2.1 (rheadS l).2.2.2 (takeS (rheadS l).2.1 (rheadS l).2.2.2).1 _ hf.2.1 ⟨by rw [← c1, ← k2]⟩ c2 ⟨by rw [← t]⟩)
  rw [if_neg k2] at h
  by_cases k3 : (rheadS l).1 = 3
  · rw [if_pos k3] at h
    exact value_list w0 w g l m hb hg hB hs (rheadS l).2.1 (rheadS l).2.2.2 hf.2 hf.1 ⟨by rw [← c1, ← k3]⟩ c2 k (fun j hj => ih j (by omega)) x ok l1 h
  · rw [if_neg k3] at h
    simp only [Option.some.injEq, Prod.mk.injEq] at h
    obtain ⟨rfl, rfl, rfl⟩ := h
    exact fin0 _ hf.1 (fun _ h => h) (value_fail2 w0 w g l m hb hg hB hs (rheadS l).1 (rheadS l).2.1 _ ⟨by rw [← c1]⟩ c2 k1 k2 k3)

/-! ### codec_Next: function 26, by hand -/
theorem st4_far {W : World} {b g t : Nat} {cs : Array Value} (h : W.heap[g]? = some (.cells cs t (0, 0))) (hne : g ≠ b) (v0 v1 v2 v3 : Value) : (st4 W b v0 v1 v2 v3).heap[g]? = some (.cells cs t (0, 0)) := blk_far (blk_far (blk_far (blk_far h (p := ⟨b, 0, none⟩) hne v0) (p := ⟨b, 1, none⟩) hne v1) (p := ⟨b, 2, none⟩) hne v2) (p := ⟨b, 3, none⟩) hne v3
theorem next_end {w W : World} {v0 v1 v2 v3 v4 : Value} {e : Int} {tm : Array Value} {R : Ending → World → Prop} (ht : tm[2]? = some (.pointer (some ⟨w.heap.size, 0, none⟩))) (ht5 : tm[3]? = some v4) (ht6 : tm[4]? = some (.int .i64 e)) (hb : W.heap[w.heap.size]? = some (.cells #[v0, v1, v2, v3] 29 (0, 0)))
    (h : R (.returned (.tuple #[.agg #[v0, v1, v2, v3], v4, .int .i64 e])) W) : bodyPost Try.prog Try.f26 R .ret { tmps := tm, defers := [] } W := by
  have g0 : W.cell? ⟨w.heap.size, 0, none⟩ = some v0 := (blk_cell hb 0).trans rfl
  have g1 : W.cell? ⟨w.heap.size, 1, none⟩ = some v1 := (blk_cell hb 1).trans rfl
  have g2 : W.cell? ⟨w.heap.size, 2, none⟩ = some v2 := (blk_cell hb 2).trans rfl
  have g3 : W.cell? ⟨w.heap.size, 3, none⟩ = some v3 := (blk_cell hb 3).trans rfl
  refine bodyPost_ret (v := .tuple #[.agg #[v0, v1, v2, v3], v4, .int .i64 e]) ?hv rfl h
  case hv =>
    simp [results, Try.f26, go_sem, g0, g1, g2, g3, ht, ht5, ht6]
set_option maxHeartbeats 3200000 in
set_option maxRecDepth 100000 in
theorem next_ok (w : World) (A : Option Addr) (c : Nat) (l : List Int) (hr : (Kd.int .u8).C w A l.length l) (hc : l.length ≤ c) (hb : Bytes l) (k : Nat) (x : S29) (l1 : List Int) (hlen : l1.length ≤ 140737488355000) (hv : rvalue k l 64 = some (x, true, l1)) :
    Calls Try.prog 26 #[.slice A l.length c] w fun e w' => ∃ v3 v4, e = .returned (.tuple #[.agg #[.int .i64 x.f0, .int .i64 x.f1, .string x.f2, v3], v4, .int .i64 0]) ∧ Kd.R k29 29 w' w.heap.size (fun k => some k ≠ v4.ownBlock) v3 x.f3 ∧ Kd.R (Kd.int .u8) 5 w' w.heap.size (fun _ => True) v4 l1 ∧ Below w.heap.size w w' := by
  have HR := Aside0.mk hr
  have HC := Aside0.mk hc
  have HLEN := Aside0.mk hlen
  clear hlen
  clear hr hc
  have W1 := Aside0.mk (show Below w.heap.size w ((w.alloc (.cells #[.int .i64 0, .int .i64 0, .string ⟨#[]⟩, .slice none 0 0] 29)).alloc (.cells #[.slice A l.length c] 64)) from ((Below.refl _ w).alloc (Nat.le_refl _) _).alloc (by simp) _)
  have S1 : Aside0 (RdS w ((w.alloc (.cells #[.int .i64 0, .int .i64 0, .string ⟨#[]⟩, .slice none 0 0] 29)).alloc (.cells #[.slice A l.length c] 64)) (w.heap.size + 1) l) := ⟨⟨A, c, by have h := blk_new (w.alloc (.cells #[.int .i64 0, .int .i64 0, .string ⟨#[]⟩, .slice none 0 0] 29)) (.cells #[.slice A l.length c] 64); rw [World.size_alloc] at h; exact h, HR.out, HC.out⟩⟩
  have B2 := Aside0.mk (blk_alloc (blk_new w (.cells #[.int .i64 0, .int .i64 0, .string ⟨#[]⟩, .slice none 0 0] 29)) (.cells #[.slice A l.length c] 64))
  go_enter Try.func26, Try.ntmps26
  go_wp2_with (first | (go_at_call 34; (refine (value_all k w _ (w.heap.size + 1) l 64 hb (by omega) W1.out S1.out x true l1 hv).mono ?_); rintro e w2 ⟨v, rfl, hv3, p1, _, p2, p3⟩; obtain ⟨A6, c6, rfl⟩ := Kd.R_slice hv3; (have RV := Aside0.mk hv3); clear hv3; (have P1 := Aside0.mk p1); (have P2 := Aside0.mk p2); (have P3 := Aside0.mk p3)))
  obtain ⟨A2, c2, hbg, hCg, hcg⟩ := P1.out
  have B6 := Aside0.mk (blk_new w2 (.cells #[.int .i64 x.f0, .int .i64 x.f1, .string x.f2, .slice A6 x.f3.length c6] 29))
  have BG := Aside0.mk (blk_alloc hbg (.cells #[.int .i64 x.f0, .int .i64 x.f1, .string x.f2, .slice A6 x.f3.length c6] 29))
  have BZ := Aside0.mk (blk_alloc (blk_kept B2.out P3.out (fun e_ => by omega)) (.cells #[.int .i64 x.f0, .int .i64 x.f1, .string x.f2, .slice A6 x.f3.length c6] 29))
  have HB3 := Aside0.mk (P2.out.alloc P2.out.size (.cells #[.int .i64 x.f0, .int .i64 x.f1, .string x.f2, .slice A6 x.f3.length c6] 29))
  have N6 := Aside0.mk (show w.heap.size ≠ w2.heap.size from by have := blk_lt hbg; omega)
  have HCG := Aside0.mk hCg
  obtain ⟨sz, hsz⟩ : ∃ sz, (w2.alloc (.cells #[.int .i64 x.f0, .int .i64 x.f1, .string x.f2, .slice A6 x.f3.length c6] 29)).heap.size = sz := ⟨_, rfl⟩
  have RV1 := Aside0.mk (Kd.R_mono (ok' := fun k => w.heap.size + 2 ≤ k ∧ k < sz) (Kd.R_bound (Kd.R_alloc RV.out (.cells #[.int .i64 x.f0, .int .i64 x.f1, .string x.f2, .slice A6 x.f3.length c6] 29))) (fun k hk => ⟨by have := hk.1; simp only [World.size_alloc] at this; omega, by rw [← hsz]; exact hk.2.2.1⟩))
  have SZ := Aside0.mk (show sz ≤ (w2.alloc (.cells #[.int .i64 x.f0, .int .i64 x.f1, .string x.f2, .slice A6 x.f3.length c6] 29)).heap.size from Nat.le_of_eq hsz.symm)
  clear hsz RV
  clear hbg hcg hCg
  generalize hb6 : w2.heap.size = b6 at B6 N6 ⊢
  generalize w2.alloc (.cells #[.int .i64 x.f0, .int .i64 x.f1, .string x.f2, .slice A6 x.f3.length c6] 29) = W3 at B6 BG BZ HB3 RV1 SZ ⊢
  clear hb6
  have n0_ := Aside0.mk (blk_drew B6.out)
  have n1_ := Aside0.mk (blk_drew BG.out)
  have n2_ := Aside0.mk (blk_drew BZ.out)
  have n3_ := Aside0.mk (below_drew1 HB3.out)
  have n5_ := Aside0.mk (Kd.R_drew RV1.out)
  have n6_ := Aside0.mk (show sz ≤ W3.drew.heap.size from SZ.out)
  clear B6 BG BZ HB3 RV1 SZ
  have RV1 := n5_
  have SZ := n6_
  clear n5_ n6_
  have B6 := n0_
  have BG := n1_
  have BZ := n2_
  have HB3 := n3_
  clear n0_ n1_ n2_ n3_
  refine start_ (n := 10) (S := fun w' => w'.cell? ⟨w.heap.size + 1, 0, none⟩ = some (.slice A2 l1.length c2) ∧ w'.cell? ⟨b6, 0, none⟩ = some (.int .i64 x.f0) ∧ w'.cell? ⟨b6, 1, none⟩ = some (.int .i64 x.f1) ∧ w'.cell? ⟨b6, 2, none⟩ = some (.string x.f2) ∧ w'.cell? ⟨b6, 3, none⟩ = some (.slice A6 x.f3.length c6)) (ds := []) #[false, false, false, false, false, false, false, false, false, false] (by kernel_rfl) rfl rfl ⟨(blk_cell BG.out 0).trans rfl, (blk_cell B6.out 0).trans rfl, (blk_cell B6.out 1).trans rfl, (blk_cell B6.out 2).trans rfl, (blk_cell B6.out 3).trans rfl⟩ (fun hHeld => ?_)
  generalize W3.drew = W4 at B6 BG BZ HB3 RV1 SZ hHeld ⊢
  refine pure_ (i := 2) (N := some 21) (v := ?_) (a' := ?_) #[false, false, true, false, false, false, false, false, false, false] rfl rfl (by kernel_rfl) (fun _ _ _ h => h) (Or.inl ⟨by rfl, ?_⟩) ?_ ?_
  rotate_left
  · intro w'
    go_simp
    with_reducible rfl
  rotate_left
  · simp only [Act.put, List.setIfInBounds_toArray, List.set_cons_zero, List.set_cons_succ, i64_w, i32_w]
    rfl
  refine pure_ (i := 3) (N := some 22) (v := ?_) (a' := ?_) #[false, false, true, true, false, false, false, false, false, false] rfl rfl (by kernel_rfl) (fun _ _ _ h => h) (Or.inl ⟨by rfl, ?_⟩) ?_ ?_
  rotate_left
  · intro w'
    go_simp
    with_reducible rfl
  rotate_left
  · simp only [Act.put, List.setIfInBounds_toArray, List.set_cons_zero, List.set_cons_succ, i64_w, i32_w]
    rfl
  refine pure_ (i := 4) (N := some 23) (v := ?_) (a' := ?_) #[false, false, true, true, true, false, false, false, false, false] rfl rfl (by kernel_rfl) (fun _ _ _ h => h) (Or.inl ⟨by rfl, ?_⟩) ?_ ?_
  rotate_left
  · intro w'
    go_simp
    with_reducible rfl
  rotate_left
  · simp only [Act.put, List.setIfInBounds_toArray, List.set_cons_zero, List.set_cons_succ, i64_w, i32_w]
    rfl
  refine take_ (i := 0) (N := some 19) (v := ?_) (a' := ?_) #[true, false, true, true, true, false, false, false, false, false] rfl rfl (by kernel_rfl) (fun _ _ _ h => h) (Or.inl ⟨by rfl, ?_⟩) hHeld ?_ ?_
  rotate_left
  · rintro w' ⟨s0, s1, s2, s3, s4⟩
    go_simp
    with_reducible rfl
  rotate_left
  · simp only [Act.put, List.setIfInBounds_toArray, List.set_cons_zero, List.set_cons_succ, i64_w, i32_w]
    rfl
  refine take_ (i := 5) (N := some 24) (v := ?_) (a' := ?_) #[true, false, true, true, true, true, false, false, false, false] rfl rfl (by kernel_rfl) (fun _ _ _ h => h) (Or.inl ⟨by rfl, ?_⟩) hHeld ?_ ?_
  rotate_left
  · rintro w' ⟨s0, s1, s2, s3, s4⟩
    go_simp
    with_reducible rfl
  rotate_left
  · simp only [Act.put, List.setIfInBounds_toArray, List.set_cons_zero, List.set_cons_succ, i64_w, i32_w]
    rfl
  refine one_ (i := 1) (N := some 20) #[true, true, true, true, true, true, false, false, false, false] rfl rfl (by kernel_rfl) (by decide) (fun K hK => ?_)
  refine Kd.R_lit_step (Kd.int .u8) (w0 := w) w.heap.size 5 (by rfl) (N := 20) rfl (xs := ([] : List Int)) (inner := []) (ok := fun k => k ≠ w.heap.size ∧ k ≠ w.heap.size + 1 ∧ k ≠ b6) (okp := fun k => k ≠ w.heap.size ∧ k ≠ w.heap.size + 1 ∧ k ≠ b6) ?hr ?hp (fun _ hk => hk) ?hf HB3.out HB3.out.size (by simp) ?_
  (case hr => first | (go_simp; done) | (go_simp; rfl))
  (case hp => exact (Reps.none _ _))
  (case hf => have h1 := blk_lt B6.out; have h2 := blk_lt BG.out; have h3 := blk_lt BZ.out; exact ⟨by omega, by omega, by omega⟩)
  intro v20 W5 ho hb hgr hown20
  have n5_ := Aside0.mk (Kd.R_grown RV1.out hgr (by simp))
  have OW20 := Aside0.mk hown20
  have n6_ := Aside0.mk (Nat.le_trans SZ.out hgr.size)
  have OWS : Aside0 (∀ k, v20.ownBlock = some k → sz ≤ k) := ⟨fun k e_ => by obtain ⟨b, h1, h2⟩ := hown20; rw [h1] at e_; injection e_ with e_; have := SZ.out; omega⟩
  clear RV1 SZ hown20
  have RV1 := n5_
  have SZ := n6_
  clear n5_ n6_
  have n0_ := Aside0.mk (blk_grown B6.out hgr (by simp))
  have n1_ := Aside0.mk (blk_grown BG.out hgr (by simp))
  have n2_ := Aside0.mk (blk_grown BZ.out hgr (by simp))
  have n3_ := Aside0.mk hb
  have HO := Aside0.mk ho
  clear B6 BG BZ HB3 ho hb hgr
  have B6 := n0_
  have BG := n1_
  have BZ := n2_
  have HB3 := n3_
  clear n0_ n1_ n2_ n3_
  refine hK.out _ _ ⟨(blk_cell BG.out 0).trans rfl, (blk_cell B6.out 0).trans rfl, (blk_cell B6.out 1).trans rfl, (blk_cell B6.out 2).trans rfl, (blk_cell B6.out 3).trans rfl⟩ (fun hHeld => ?_)
  clear hK K
  refine norm_ (a' := ?_) ?_ ?_
  rotate_left
  · show Act.put _ (some 20) _ = _
    simp only [Act.put, List.setIfInBounds_toArray, List.set_cons_zero, List.set_cons_succ, i64_w, i32_w]
    rfl
  refine one_ (i := 6) (N := some 25) #[true, true, true, true, true, true, true, false, false, false] rfl rfl (by kernel_rfl) (by decide) (fun K hK => ?_)
  refine Kd.R_append_rows_step (Kd.int .u8) (w0 := w) w.heap.size (by rfl) (.tmp 20) (.tmp 24) 31 5 (.int .u8 0) 1 rfl Try.underlying31 info5 rfl (by decide) (by omega) v20 [] l1 A2 l1.length c2 (fun k => k ≠ w.heap.size ∧ k ≠ w.heap.size + 1 ∧ k ≠ b6) (fun _ => False) rfl rfl HO.out ?aR (fun _ _ h => h) (fun _ h => h.elim) ?aF HB3.out HB3.out.size ?aL ?_
  (case aR => exact Kd.C_below HCG.out HB3.out)
  (case aF => intro k hk; have h1 := blk_lt B6.out; have h2 := blk_lt BG.out; have h3 := blk_lt BZ.out; exact ⟨by omega, by omega, by omega⟩)
  (case aL => have := HLEN.out; simp only [List.length_nil]; omega)
  intro v25 W6 ho hb hgr hat
  have n5_ := Aside0.mk (Kd.R_grown RV1.out hgr (fun k hk e_ => by have := OWS.out k e_.symm; omega))
  have OW25 : Aside0 (∀ k, v25.ownBlock = some k → sz ≤ k) := ⟨fun k e_ => hat.elim (fun h => OWS.out k (h ▸ e_)) (fun ⟨b, h1, h2⟩ => by rw [h1] at e_; injection e_ with e_; have := SZ.out; omega)⟩
  clear RV1 SZ
  have RV1 := n5_
  clear n5_
  have n0_ := Aside0.mk (blk_grown B6.out hgr (Kd.R_away HO.out (fun _ hk => hk.2.2)))
  have n1_ := Aside0.mk (blk_grown BG.out hgr (Kd.R_away HO.out (fun _ hk => hk.2.1)))
  have n2_ := Aside0.mk (blk_grown BZ.out hgr (Kd.R_away HO.out (fun _ hk => hk.1)))
  have n3_ := Aside0.mk hb
  rw [List.nil_append] at ho
  have n4_ := Aside0.mk ho
  clear B6 BG BZ HB3 HO ho hb hgr hat
  have B6 := n0_
  have BG := n1_
  have BZ := n2_
  have HB3 := n3_
  have HO := n4_
  clear n0_ n1_ n2_ n3_ n4_
  refine hK.out _ _ ⟨(blk_cell BG.out 0).trans rfl, (blk_cell B6.out 0).trans rfl, (blk_cell B6.out 1).trans rfl, (blk_cell B6.out 2).trans rfl, (blk_cell B6.out 3).trans rfl⟩ (fun hHeld => ?_)
  clear hK K
  refine norm_ (a' := ?_) ?_ ?_
  rotate_left
  · show Act.put _ (some 25) _ = _
    simp only [Act.put, List.setIfInBounds_toArray, List.set_cons_zero, List.set_cons_succ, i64_w, i32_w]
    rfl
  refine one_ (i := 7) (N := none) #[true, true, true, true, true, true, true, true, false, false] rfl rfl (by kernel_rfl) (by decide) (fun K hK => ?_)
  have hz0 : W6.cell? ⟨w.heap.size, 0, none⟩ = some (.int .i64 0) := (blk_cell BZ.out 0).trans rfl
  have hz1 : W6.cell? ⟨w.heap.size, 1, none⟩ = some (.int .i64 0) := (blk_cell BZ.out 1).trans rfl
  have hz2 : W6.cell? ⟨w.heap.size, 2, none⟩ = some (.string ⟨#[]⟩) := (blk_cell BZ.out 2).trans rfl
  have hz3 : W6.cell? ⟨w.heap.size, 3, none⟩ = some (.slice none 0 0) := (blk_cell BZ.out 3).trans rfl
  have hf0 := blk_frozen BZ.out 0
  have hf1 := blk_frozen BZ.out 1
  have hf2 := blk_frozen BZ.out 2
  have hf3 := blk_frozen BZ.out 3
  refine skip_ (w1 := st4 W6 w.heap.size (.int .i64 x.f0) (.int .i64 x.f1) (.string x.f2) (.slice A6 x.f3.length c6)) (by rfl) rfl ?_ ?_
  · unfold st4
    go_simp
  have n0_ := Aside0.mk (st4_far B6.out N6.out.symm (.int .i64 x.f0) (.int .i64 x.f1) (.string x.f2) (.slice A6 x.f3.length c6))
  have n1_ := Aside0.mk (st4_far BG.out (show w.heap.size + 1 ≠ w.heap.size by omega) (.int .i64 x.f0) (.int .i64 x.f1) (.string x.f2) (.slice A6 x.f3.length c6))
  have n2_ := Aside0.mk (st4_blk BZ.out (.int .i64 x.f0) (.int .i64 x.f1) (.string x.f2) (.slice A6 x.f3.length c6))
  have n3_ := Aside0.mk (st4_below HB3.out (Nat.le_refl _) (.int .i64 x.f0) (.int .i64 x.f1) (.string x.f2) (.slice A6 x.f3.length c6))
  have n4_ := Aside0.mk (Kd.R_kept HO.out (st4_kept (Kept.refl W6 (fun k => k = w.heap.size)) (.inl rfl) (.int .i64 x.f0) (.int .i64 x.f1) (.string x.f2) (.slice A6 x.f3.length c6)) (fun k hk e_ => hk.1 e_))
  have n5_ := Aside0.mk (Kd.R_kept RV1.out (st4_kept (Kept.refl W6 (fun k => k = w.heap.size)) (.inl rfl) (.int .i64 x.f0) (.int .i64 x.f1) (.string x.f2) (.slice A6 x.f3.length c6)) (fun k hk e_ => by omega))
  clear hz0 hz1 hz2 hz3 hf0 hf1 hf2 hf3 B6 BG BZ HB3 HO RV1
  have RV1 := n5_
  clear n5_
  have B6 := n0_
  have BG := n1_
  have BZ := n2_
  have HB3 := n3_
  have HO := n4_
  clear n0_ n1_ n2_ n3_ n4_
  refine hK.out _ _ ⟨(blk_cell BG.out 0).trans rfl, (blk_cell B6.out 0).trans rfl, (blk_cell B6.out 1).trans rfl, (blk_cell B6.out 2).trans rfl, (blk_cell B6.out 3).trans rfl⟩ (fun hHeld => ?_)
  clear hK K
  generalize st4 W6 w.heap.size (.int .i64 x.f0) (.int .i64 x.f1) (.string x.f2) (.slice A6 x.f3.length c6) = W7 at B6 BG BZ HB3 HO RV1 hHeld ⊢
  refine pure_ (i := 8) (N := some 3) (v := ?_) (a' := ?_) #[true, true, true, true, true, true, true, true, true, false] rfl rfl (by kernel_rfl) (fun _ _ _ h => h) (Or.inl ⟨by rfl, ?_⟩) ?_ ?_
  rotate_left
  · intro w'
    go_simp
    with_reducible rfl
  rotate_left
  · simp only [Act.put, List.setIfInBounds_toArray, List.set_cons_zero, List.set_cons_succ, i64_w, i32_w]
    rfl
  refine pure_ (i := 9) (N := some 4) (v := ?_) (a' := ?_) #[true, true, true, true, true, true, true, true, true, true] rfl rfl (by kernel_rfl) (fun _ _ _ h => h) (Or.inl ⟨by rfl, ?_⟩) ?_ ?_
  rotate_left
  · intro w'
    go_simp
    with_reducible rfl
  rotate_left
  · simp only [Act.put, List.setIfInBounds_toArray, List.set_cons_zero, List.set_cons_succ, i64_w, i32_w]
    rfl
  refine done_ (by kernel_rfl) ?_
  try go_wp2
  refine next_end (w := w) (v4 := v25) (e := 0) ?_ ?_ ?_ BZ.out ?_
  · rfl
  · rfl
  · rfl
  exact ⟨_, v25, rfl, Kd.R_mono RV1.out (fun k hk e_ => by have := OW25.out k e_.symm; omega), Kd.R_mono HO.out (fun _ _ => trivial), HB3.out⟩
set_option maxHeartbeats 3200000 in
set_option maxRecDepth 100000 in
theorem next_fail (w : World) (A : Option Addr) (c : Nat) (l : List Int) (hr : (Kd.int .u8).C w A l.length l) (hc : l.length ≤ c) (hb : Bytes l) (k : Nat) (x : S29) (l1 : List Int) (hv : rvalue k l 64 = some (x, false, l1)) :
    Calls Try.prog 26 #[.slice A l.length c] w fun e w' => e = .returned (.tuple #[.agg #[.int .i64 0, .int .i64 0, .string ⟨#[]⟩, .slice none 0 0], .slice none 0 0, .int .i64 4]) ∧ Below w.heap.size w w' := by
  have HR := Aside0.mk hr
  have HC := Aside0.mk hc
  clear hr hc
  have W1 := Aside0.mk (show Below w.heap.size w ((w.alloc (.cells #[.int .i64 0, .int .i64 0, .string ⟨#[]⟩, .slice none 0 0] 29)).alloc (.cells #[.slice A l.length c] 64)) from ((Below.refl _ w).alloc (Nat.le_refl _) _).alloc (by simp) _)
  have S1 : Aside0 (RdS w ((w.alloc (.cells #[.int .i64 0, .int .i64 0, .string ⟨#[]⟩, .slice none 0 0] 29)).alloc (.cells #[.slice A l.length c] 64)) (w.heap.size + 1) l) := ⟨⟨A, c, by have h := blk_new (w.alloc (.cells #[.int .i64 0, .int .i64 0, .string ⟨#[]⟩, .slice none 0 0] 29)) (.cells #[.slice A l.length c] 64); rw [World.size_alloc] at h; exact h, HR.out, HC.out⟩⟩
  have B2 := Aside0.mk (blk_alloc (blk_new w (.cells #[.int .i64 0, .int .i64 0, .string ⟨#[]⟩, .slice none 0 0] 29)) (.cells #[.slice A l.length c] 64))
  go_enter Try.func26, Try.ntmps26
  go_wp2_with (first | (go_at_call 34; (refine (value_all k w _ (w.heap.size + 1) l 64 hb (by omega) W1.out S1.out x false l1 hv).mono ?_); rintro e w2 ⟨v, rfl, hv3, p1, _, p2, p3⟩; obtain ⟨A6, c6, rfl⟩ := Kd.R_slice hv3; clear hv3; (have P2 := Aside0.mk p2); (have BY := Aside0.mk (blk_alloc (blk_kept B2.out p3 (fun e_ => by omega)) (.cells #[.int .i64 x.f0, .int .i64 x.f1, .string x.f2, .slice A6 x.f3.length c6] 29))); clear p1 p2 p3; (have hy0 : (w2.alloc (.cells #[.int .i64 x.f0, .int .i64 x.f1, .string x.f2, .slice A6 x.f3.length c6] 29)).cell? ⟨w.heap.size, 0, none⟩ = some (.int .i64 0) := (blk_cell BY.out 0).trans rfl); (have hy1 : (w2.alloc (.cells #[.int .i64 x.f0, .int .i64 x.f1, .string x.f2, .slice A6 x.f3.length c6] 29)).cell? ⟨w.heap.size, 1, none⟩ = some (.int .i64 0) := (blk_cell BY.out 1).trans rfl); (have hy2 : (w2.alloc (.cells #[.int .i64 x.f0, .int .i64 x.f1, .string x.f2, .slice A6 x.f3.length c6] 29)).cell? ⟨w.heap.size, 2, none⟩ = some (.string ⟨#[]⟩) := (blk_cell BY.out 2).trans rfl); (have hy3 : (w2.alloc (.cells #[.int .i64 x.f0, .int .i64 x.f1, .string x.f2, .slice A6 x.f3.length c6] 29)).cell? ⟨w.heap.size, 3, none⟩ = some (.slice none 0 0) := (blk_cell BY.out 3).trans rfl); (have hyf0 := blk_frozen BY.out 0); (have hyf1 := blk_frozen BY.out 1); (have hyf2 := blk_frozen BY.out 2); (have hyf3 := blk_frozen BY.out 3)))
  refine next_end (w := w) (v4 := .slice none 0 0) (e := 4) ?_ ?_ ?_ (st4_blk BY.out (.int .i64 0) (.int .i64 0) (.string ⟨#[]⟩) (.slice none 0 0)) ?_
  · rfl
  · rfl
  · rfl
  exact ⟨rfl, st4_below (P2.out.alloc P2.out.size _) (Nat.le_refl _) _ _ _ _⟩
theorem rvalue_mono_l : ∀ k, (∀ y0 y1, LeO (rvalue k y0 y1) (rvalue (k + 1) y0 y1)) ∧ (∀ y0 y1 y2 y3, LeO (rlist k y0 y1 y2 y3) (rlist (k + 1) y0 y1 y2 y3))
  | 0 => ⟨fun _ _ r h => by simp [rvalue] at h, fun _ _ _ _ r h => by simp [rlist] at h⟩
  | k + 1 => by
    obtain ⟨ih0, ih1⟩ := rvalue_mono_l k
    refine ⟨?_, ?_⟩
    · intro y0 y1
      unfold rvalue
      repeat' first
      | (with_reducible exact ih0 _ _)
      | (with_reducible exact ih1 _ _ _ _)
      | (with_reducible exact LeO.refl _)
      | (with_reducible exact LeO.none _)
      | (with_reducible refine LeO.ite ?_ ?_)
      | (with_reducible refine LeO.bind ?_ (fun _ => ?_))
    · intro y0 y1 y2 y3
      unfold rlist
      repeat' first
      | (with_reducible exact ih0 _ _)
      | (with_reducible exact ih1 _ _ _ _)
      | (with_reducible exact LeO.refl _)
      | (with_reducible exact LeO.none _)
      | (with_reducible refine LeO.ite ?_ ?_)
      | (with_reducible refine LeO.bind ?_ (fun _ => ?_))
theorem rvalue.mono : ∀ a0 a1 k, LeO (rvalue k a0 a1) (rvalue (k + 1) a0 a1) := fun a0 a1 k => (rvalue_mono_l k).1 a0 a1
def allBytes (l : List Int) : Bool := l.all (fun x => decide (0 ≤ x ∧ x < 256))
theorem allBytes_bytes {l : List Int} (h : allBytes l = true) : Bytes l := fun x hx => of_decide_eq_true (List.all_eq_true.1 h x hx)
def codec_Next.f (k : Nat) (l0 : List Int) : Option (Int × Int × ByteArray × List S29 × List Int × Int) :=
  if allBytes l0 = true then (rvalue k l0 64).bind fun t => (if t.2.1 = true then (if t.2.2.length ≤ 140737488355000 then some (t.1.f0, t.1.f1, t.1.f2, t.1.f3, t.2.2, 0) else none) else some (0, 0, ⟨#[]⟩, [], [], 4)) else none
theorem codec_Next.mono : ∀ a0 k, LeO (codec_Next.f k a0) (codec_Next.f (k + 1) a0) := by
  intro a0 k
  unfold codec_Next.f
  repeat' first
  | (with_reducible exact rvalue.mono _ _ _)
  | (with_reducible exact LeO.refl _)
  | (with_reducible exact LeO.none _)
  | (with_reducible refine LeO.ite ?_ ?_)
  | (with_reducible refine LeO.bind ?_ (fun _ => ?_))
theorem codec_Next.calls (k : Nat) (A0 : Option Addr) (c0 : Nat) (l0 : List Int) (r1 : Int) (r2 : Int) (r3 : ByteArray) (r4 : List (S29)) (r5 : List Int) (r6 : Int) (w : World) (hr0 : Kd.C (Kd.int .u8) w A0 l0.length l0) (hc0 : l0.length ≤ c0) (h : codec_Next.f k l0 = some (r1, r2, r3, r4, r5, r6)) :
    Calls Try.prog 26 #[.slice A0 l0.length c0] w fun e w' => ∃ v3_ v4_ : Value, e = .returned (.tuple #[.agg #[.int .i64 r1, .int .i64 r2, .string r3, v3_], v4_, .int .i64 r6]) ∧ Kd.R k29 29 w' w.heap.size (fun _ => True) v3_ r4 ∧ Kd.R (Kd.int .u8) 5 w' w.heap.size (fun _ => True) v4_ r5 ∧ Below w.heap.size w w' := by
  unfold codec_Next.f at h
  by_cases ha : allBytes l0 = true
  · rw [if_pos ha] at h
    have hb := allBytes_bytes ha
    obtain ⟨⟨x, ok, l1⟩, hv, h⟩ := Option.bind_eq_some_iff.1 h
    dsimp only at h
    cases ok with
    | false =>
      rw [if_neg (by decide)] at h
      simp only [Option.some.injEq, Prod.mk.injEq] at h
      obtain ⟨rfl, rfl, rfl, rfl, rfl, rfl⟩ := h
      exact (next_fail w A0 c0 l0 hr0 hc0 hb k x l1 hv).mono fun e w' ⟨h1, h2⟩ => ⟨_, _, h1, Kd.R_nil _ _ _ _ _, Kd.R_nil _ _ _ _ _, h2⟩
    | true =>
      rw [if_pos rfl] at h
      by_cases hl1 : l1.length ≤ 140737488355000
      · rw [if_pos hl1] at h
        simp only [Option.some.injEq, Prod.mk.injEq] at h
        obtain ⟨rfl, rfl, rfl, rfl, rfl, rfl⟩ := h
        exact (next_ok w A0 c0 l0 hr0 hc0 hb k x l1 hl1 hv).mono fun e w' ⟨v3, v4, h1, h2, h3, h4⟩ => ⟨v3, v4, h1, Kd.R_mono h2 (fun _ _ => trivial), h3, h4⟩
      · rw [if_neg hl1] at h
        cases h
  · rw [if_neg ha] at h
    cases h

end Go.Proofs.Ytploigkfnkgjiaa.PN
