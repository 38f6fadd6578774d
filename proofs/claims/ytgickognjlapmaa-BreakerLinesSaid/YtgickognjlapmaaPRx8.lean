-- Written by a program of this place (wip/gen.py) with the kit's print; not trusted: Lean checks it.
import Derived.Test.YtgickognjlapmaaPRx0
import Derived.Test.YtgickognjlapmaaPRx2
import Derived.Test.YtgickognjlapmaaPRx3
namespace Go.Proofs.Ytgickognjlapmaa.PR
open Go.RowKit Go.Proofs.YtgickognjlapmaaW.PrintWords Go.Proofs.YtgickognjlapmaaW.PrintLast Go.Proofs.YtgickognjlapmaaW.PrintMore
attribute [local go_sem] max2_int min2_int max_two min_two max_three min_three max_four min_four   -- for this text's walks alone
set_option linter.unusedVariables false
set_option linter.unusedSimpArgs false

/-! ### breaker_Lines: function 19, by hand -/
/-! ### the closure of Lines: a row of rows of ends -/
set_option maxHeartbeats 1000000 in
theorem lines_closure (W : World) (b bk gr gc : Nat) (o : List EndV) (cs : Array Value) (N n : Nat) (kk ln i : Int) (c : Nat) (hkk : wrap64 (kk - ln) = (c : Int)) (hcN : c < N) (hn : n = o.length) (hi0 : 0 ≤ i) (hi1 : i < (o.length : Int))
    (hb : W.heap[b]? = some (.cells #[.slice (some ⟨gr, 0, none⟩) N N] 62 (0, 0))) (hk : W.heap[bk]? = some (.cells #[.int .i64 kk] 3 (0, 0))) (hr : W.heap[gr]? = some (.cells cs 47 (0, 0))) (hcs : cs[c]? = some (.slice (some ⟨gc, 0, none⟩) n n)) (hg : W.heap[gc]? = some (.cells (mkEnds o) 52 (0, 0))) :
    Calls Try.prog 33 #[.int .i64 ln, .int .i64 i, .pointer (some ⟨b, 0, none⟩), .pointer (some ⟨bk, 0, none⟩)] W fun e w' => e = .returned (.agg #[.int .i64 (re o i).1, .int .i64 (re o i).2.1, .bool (re o i).2.2]) ∧ Below W.heap.size W w' := by
  subst hn
  obtain ⟨j, rfl⟩ : ∃ j : Nat, i = (j : Int) := ⟨i.toNat, by omega⟩
  have hm := mkEnds_get o j (by omega)
  have x0 : (W.alloc (.cells #[.int .i64 0, .int .i64 0, .bool false] 52)).cell? ⟨b, 0, none⟩ = some (.slice (some ⟨gr, 0, none⟩) N N) := (blk_cell (blk_alloc hb _) 0).trans rfl
  have xk : (W.alloc (.cells #[.int .i64 0, .int .i64 0, .bool false] 52)).cell? ⟨bk, 0, none⟩ = some (.int .i64 kk) := (blk_cell (blk_alloc hk _) 0).trans rfl
  have xr : (W.alloc (.cells #[.int .i64 0, .int .i64 0, .bool false] 52)).cell? ⟨gr, c, none⟩ = some (.slice (some ⟨gc, 0, none⟩) o.length o.length) := (blk_cell (blk_alloc hr _) _).trans hcs
  have x1 : (W.alloc (.cells #[.int .i64 0, .int .i64 0, .bool false] 52)).cell? ⟨gc, j * 3, none⟩ = some (.int .i64 (re o (j : Int)).1) := (blk_cell (blk_alloc hg _) _).trans hm.1
  have x2 : (W.alloc (.cells #[.int .i64 0, .int .i64 0, .bool false] 52)).cell? ⟨gc, j * 3 + 1, none⟩ = some (.int .i64 (re o (j : Int)).2.1) := (blk_cell (blk_alloc hg _) _).trans hm.2.1
  have x3 : (W.alloc (.cells #[.int .i64 0, .int .i64 0, .bool false] 52)).cell? ⟨gc, j * 3 + 2, none⟩ = some (.bool (re o (j : Int)).2.2) := (blk_cell (blk_alloc hg _) _).trans hm.2.2
  have ec : (c : Int) < (N : Int) := by omega
  have ec' : decide ((c : Int) < (N : Int)) = true := decide_eq_true ec
  have lb := blk_lt hb
  have lg := blk_lt hg
  have lr := blk_lt hr
  have lk := blk_lt hk
  go_enter Try.func33, Try.ntmps33
  go_wp2
  refine bodyPost_ret (results_cell_row rfl _ _ W.heap.size 52 #[.int .i64 (re o (j : Int)).1, .int .i64 (re o (j : Int)).2.1, .bool (re o (j : Int)).2.2] (0, 0) _ rfl (blk_new W _) Try.underlying52 rfl (by kernel_rfl)) rfl ?_
  exact ⟨rfl, (Below.refl _ W).alloc (Nat.le_refl _) _⟩
/-- follow's loop with the closure of Lines: a line's number must not pass the number of lines. -/
def breaker_follow_lines.l (N kk : Nat) (nx : Nat → Int → Int) : Nat → List Int → Int → Nat → Option (List Int)
  | 0, _, _, _ => none
  | k + 1, acc, i, ln => if i < (N : Int) then (if 0 ≤ i then (if ln ≤ kk then (if acc.length < 17592186044416 then breaker_follow_lines.l N kk nx k (acc ++ [i]) (nx (kk - ln) i) (ln + 1) else none) else none) else none) else some acc
theorem follow_lines_mono (N kk : Nat) (nx : Nat → Int → Int) : ∀ k acc i ln, LeO (breaker_follow_lines.l N kk nx k acc i ln) (breaker_follow_lines.l N kk nx (k + 1) acc i ln)
  | 0, _, _, _ => LeO.none _
  | k + 1, acc, i, ln => by
    unfold breaker_follow_lines.l
    exact LeO.ite (LeO.ite (LeO.ite (LeO.ite (follow_lines_mono N kk nx k _ _ _) (LeO.refl _)) (LeO.refl _)) (LeO.refl _)) (LeO.refl _)
set_option maxRecDepth 100000 in
set_option maxHeartbeats 4000000 in
theorem follow_lines (k kk : Nat) (hk64 : kk ≤ 100000) (A : Option Addr) (c : Nat) (xs : List S34) (wd ind : Int) (b bk gr : Nat) (cs : Array Value) (rows : Nat → List EndV) (gs : Nat → Nat) (hrows : ∀ c, c ≤ kk → (rows c).length = xs.length + 1) (r : List Int) (w : World) (hb : w.heap[b]? = some (.cells #[.slice (some ⟨gr, 0, none⟩) (kk + 1) (kk + 1)] 62 (0, 0))) (hbk : w.heap[bk]? = some (.cells #[.int .i64 (kk : Int)] 3 (0, 0))) (hgr : w.heap[gr]? = some (.cells cs 47 (0, 0))) (hcs : ∀ c, c ≤ kk → cs[c]? = some (.slice (some ⟨gs c, 0, none⟩) (xs.length + 1) (xs.length + 1))) (hg : ∀ c, c ≤ kk → w.heap[gs c]? = some (.cells (mkEnds (rows c)) 52 (0, 0)))
    (h : breaker_follow_lines.l xs.length kk (fun c i => (re (rows c) i).2.1) k [] 0 0 = some r) :
    Calls Try.prog 26 #[.agg #[.slice A xs.length c, .int .i64 wd, .int .i64 ind], .func (.func 33) #[] #[.pointer (some ⟨b, 0, none⟩), .pointer (some ⟨bk, 0, none⟩)]] w fun e w' => ∃ v0_ : Value, e = .returned v0_ ∧ Kd.R (Kd.int .i64) 3 w' w.heap.size (fun _ => True) v0_ r ∧ Below w.heap.size w w' := by
  have H' := Aside0.mk h
  have HGB := Aside0.mk hb
  have HBK := Aside0.mk hbk
  have HGR := Aside0.mk hgr
  have HCS := Aside0.mk hcs
  have HGG := Aside0.mk hg
  have HOL := Aside0.mk hrows
  clear h hb hbk hgr hcs hg hrows
  have hfl : ∀ (x y z : Value) (W : World), (Instr.field 52 (.agg #[x, y, z]) 1).run Try.prog W = .ok y W := fun _ _ _ _ => by kernel_rfl
  go_enter Try.func26, Try.ntmps26
  have HW0 : Aside0 ((w.alloc (.cells #[.slice A xs.length c, .int .i64 wd, .int .i64 ind] 46)).heap[w.heap.size]? = some (.cells #[.slice A xs.length c, .int .i64 wd, .int .i64 ind] 46 (0, 0))) := ⟨blk_new w _⟩
  have HB0 : Aside0 (Below w.heap.size w (w.alloc (.cells #[.slice A xs.length c, .int .i64 wd, .int .i64 ind] 46))) := ⟨(Below.refl _ w).alloc (Nat.le_refl _) _⟩
  have HS0 : Aside0 ((w.alloc (.cells #[.slice A xs.length c, .int .i64 wd, .int .i64 ind] 46)).heap.size = w.heap.size + 1) := ⟨by simp⟩
  go_wp2
  obtain ⟨W0, hW0⟩ : ∃ W0, w.alloc (.cells #[.slice A xs.length c, .int .i64 wd, .int .i64 ind] 46) = W0 := ⟨_, rfl⟩
  simp only [hW0] at HW0 HB0 HS0 ⊢
  have HB := Aside0.mk (Below.refl W0.heap.size W0)
  go_loopg [5, 6, 7] k (fun kq v5 v6 v7 w' => ∃ (acc : List Int) (i : Int) (ln : Nat), v6 = .int .i64 i ∧ v7 = .int .i64 (ln : Int) ∧ Aside0 (breaker_follow_lines.l xs.length kk (fun c i => (re (rows c) i).2.1) kq acc i ln = some r) ∧ Aside0 (kq ≤ k) ∧ Aside0 (Kd.R (Kd.int .i64) 3 w' W0.heap.size (fun _ => True) v5 acc) ∧ Aside0 (Below W0.heap.size W0 w'))
  case atStart => exact ⟨[], 0, 0, rfl, rfl, H', ⟨Nat.le_refl _⟩, ⟨Kd.R_nil _ _ _ _ _⟩, HB⟩
  case round =>
    clear H'
    obtain ⟨acc, i, ln, rfl, rfl, HA, HK1, HO, HB⟩ := hrel
    cases gk with
    | zero => exact absurd HA.out (by simp [breaker_follow_lines.l])
    | succ k1 =>
      have H := HA.out
      clear HA
      simp only [breaker_follow_lines.l] at H
      have q0 : wr.cell? ⟨w.heap.size, 0, none⟩ = some (.slice A xs.length c) := (blk_cell (blk_below HW0.out HB.out) 0).trans rfl
      by_cases c5 : i < (xs.length : Int)
      · rw [if_pos c5] at H
        have c5b0 : decide (i < (xs.length : Int)) = true := decide_eq_true c5
        have C5 := Aside0.mk c5
        clear c5
        by_cases c7 : 0 ≤ i
        case neg => rw [if_neg c7] at H; exact absurd H (by simp)
        rw [if_pos c7] at H
        have C7 := Aside0.mk c7
        clear c7
        by_cases c8 : ln ≤ kk
        case neg => rw [if_neg c8] at H; exact absurd H (by simp)
        rw [if_pos c8] at H
        have C8 := Aside0.mk c8
        clear c8
        have hln : wrap64 ((ln : Int) + 1) = ((ln + 1 : Nat) : Int) := by have := C8.out; unfold wrap64; omega
        by_cases c10 : acc.length < 17592186044416
        case neg => rw [if_neg c10] at H; exact absurd H (by simp)
        rw [if_pos c10] at H
        have LM := Aside0.mk c10
        clear c10
        obtain ⟨y1, hy1⟩ : ∃ y_ : List Int, y_ = acc ++ [i] := ⟨_, rfl⟩
        rw [← hy1] at H
        have NY := Aside0.mk hy1
        clear hy1
        have H' := Aside0.mk H
        clear H
        go_wp2_with (first | ((with_reducible refine gate_builtin (b := .append) (xs := #[.tmp 15, .tmp 17]) rfl ?_); at_builtin; refine Kd.R_append (Kd.int .i64) (w0 := W0) W0.heap.size rfl (.tmp 15) (.tmp 17) 27 3 (.int .i64 0) 8 rfl Try.underlying27 info3 rfl (by decide) (by omega) u5 acc i [.int .i64 i] (fun _ => True) (fun _ => False) rfl rfl ?aP (fun _ hk => hk.elim) ?aF ?aO ?aB ?aS ?aL ?_; (case aP => exact rfl); (case aB => exact HB.out); (case aF => exact (fun _ _ => trivial)); (case aO => exact HO.out); (case aS => exact HB.out.size); (case aL => have := LM.out; omega); intro v298 w11 ho hb hg hat; rw [← NY.out] at ho; have n0_ := Aside0.mk (hb); have n1_ := Aside0.mk (ho); clear HB; clear HO; have HB := n0_; have HO := n1_; clear n0_ n1_; clear ho hb hg hat) | go_at_fn 33)
        have HWW := Aside0.mk (HB0.out.trans (HB.out.mono HB0.out.size))
        refine (lines_closure _ b bk gr (gs (kk - ln)) (rows (kk - ln)) cs (kk + 1) (xs.length + 1) (kk : Int) (ln : Int) i (kk - ln) (by have := C8.out; unfold wrap64; omega) (by omega) (HOL.out _ (Nat.sub_le _ _)).symm C7.out (by have := C5.out; have := HOL.out (kk - ln) (Nat.sub_le _ _); omega) (blk_below HGB.out HWW.out) (blk_below HBK.out HWW.out) (blk_below HGR.out HWW.out) (HCS.out _ (Nat.sub_le _ _)) (blk_below (HGG.out _ (Nat.sub_le _ _)) HWW.out)).mono ?_
        rintro e w12 ⟨rfl, hb12⟩
        have HB2 := Aside0.mk (HB.out.trans (hb12.mono HB.out.size))
        have HO2 := Aside0.mk (Kd.R_below HO.out hb12)
        clear hb12 HO HB
        go_wp2
        go_roundg k1
        case measure => have := HK1.out; omega
        case rel => exact ⟨y1, (re (rows (kk - ln)) i).2.1, ln + 1, rfl, by first | rw [hln] | go_num, H', ⟨by have := HK1.out; omega⟩, HO2, HB2⟩
      · rw [if_neg c5] at H
        have c5b0 : decide (i < (xs.length : Int)) = false := decide_eq_false c5
        obtain rfl := Option.some.inj H
        go_wp2
        go_ret
        exact ⟨_, rfl, Kd.R_lower HO.out (by have := HS0.out; omega), HB0.out.trans (HB.out.mono HB0.out.size)⟩
/-! ### a region that draws, within a round -/
section
variable {F : Fence} {n : Nat} {P : Program} {ops : Array Oper} {Q : Exit → Act → World → Prop} {md : Region.Mode}
theorem Oper.wpIn_inRound (r : Nat) {o : Oper} {a : Act} {w : World} {K K' : Act → World → Prop} (hro : F.round = none) (hd : ∀ c, o.op ≠ .defer c) (hk : ∀ a w, K a w → K' a w) (h : o.wpIn F n P a w K Q) : o.wpIn (F.inRound r) n P a w K' Q := by
  unfold Oper.wpIn at *
  refine ⟨h.1, ?_⟩
  have hh := h.2
  rw [Oper.semAt_plain F _ _ hd] at hh
  rw [Oper.semAt_plain (F.inRound r) _ _ hd]
  generalize (execOp a.eval o).run P w = q at *
  cases q with
  | ok x w' =>
    cases x <;> simp only [Oper.uponIn] at hh ⊢ <;>
      first
        | exact hk _ _ hh
        | exact ⟨hh.1, CallsIn.mono (F := F) hh.2 (fun e w'' he => by cases e <;> first | exact hk _ _ he | exact he)⟩
        | exact ⟨hh.1, RowsIn.mono hh.2 (fun _ _ he => hk _ _ he)⟩
        | exact ⟨hh.1, RoundIn.mono hh.2 (fun e w'' he => by cases e <;> first | exact hk _ _ he | exact he)⟩
  | halt x w' => cases x <;> simp only [Oper.uponIn] at hh ⊢ <;> exact hh
theorem wpAnyIn_inRound (r : Nat) (hro : F.round = none) (hd : ∀ (i : Nat) o, ops[i]? = some o → ∀ c, o.op ≠ .defer c) : ∀ (fuel : Nat) (listed : Array Bool) (a : Act) (w : World), wpAnyIn F n P md ops Q fuel listed a w → wpAnyIn (F.inRound r) n P md ops Q fuel listed a w := by
  intro fuel
  induction fuel with
  | zero => intro listed a w h; exact h
  | succ fuel ih =>
    intro listed a w h
    refine ⟨h.1, fun i hi => ?_⟩
    have h2 := h.2 i hi
    unfold wpOpIn at *
    cases ho : ops[i]? with
    | none => rw [ho] at h2; exact ih _ _ _ h2
    | some o =>
      rw [ho] at h2
      dsimp only at h2 ⊢
      split
      · rename_i hw
        rw [if_pos hw] at h2
        exact Oper.wpIn_inRound r hro (hd i o ho) (fun a w => ih _ a w) h2
      · rename_i hw
        rw [if_neg hw] at h2
        exact ⟨h2.1, ih _ _ _ h2.2⟩
def noDefer (ops : List Oper) : Bool := ops.all fun o => match o.op with | .defer _ => false | _ => true
theorem noDefer_spec {l : List Oper} (h : noDefer l = true) (i : Nat) (o : Oper) (ho : l.toArray[i]? = some o) (c : Call) : o.op ≠ .defer c := fun e => by
  have h1 := List.all_eq_true.1 h o (List.mem_of_getElem? (by simpa using ho))
  rw [e] at h1
  cases h1
/-- A region that draws and only reads, in a round: one walk in the text's order. -/
theorem region_quiet_round (r : Nat) {id : Nat} {a : Act} {w : World} {l : List Oper} (hro : F.round = none) (hm : P.follows .mixedOrders = true) (hB : Region.lexB .any l.toArray = true) (hd : noDefer l = true)
    (h : wpQuietIn F n P l.toArray (fun w' => ∃ n, w' = w.drewN n) (fun a' => ∀ w', (∃ n, w' = w.drewN n) → Q .normal a' w') l a) : (Code.region id l.toArray true).wpIn (F.inRound r) n P Q a w := by
  refine wpIn_region_any hm (wpAnyIn_inRound r hro (noDefer_spec hd) _ _ _ _ ?_)
  simp only [Region.lexB, Bool.and_eq_true] at hB
  refine wpAnyIn_of_quiet (C := fun w' => ∃ n, w' = w.drewN n) (Q := fun a' => ∀ w', (∃ n, w' = w.drewN n) → Q .normal a' w') hro (fun _ w' hw' h => h w' hw') _ _ _ _ ⟨1, rfl⟩ ?_
  have := wpAnyQIn_lex (F := F) (n := n) (C := fun w' => ∃ n, w' = w.drewN n) (md := .any) hB.1 l 0 (Array.replicate l.toArray.size false) a (by simp) (by simpa using hB.2) h
  simpa using this
end
/-! ### a plain walk of a region that draws, taken into a round -/
section
variable {P : Program} {ops : Array Oper} {Q : Exit → Act → World → Prop} {md : Region.Mode} {n : Nat}
theorem oper_wide {o : Oper} {a : Act} {w : World} {K : Act → World → Prop} (h : o.wp P a w K Q) : o.wpIn Fence.wide n P a w K Q := by
  unfold Oper.wpIn
  unfold Oper.wp at h
  refine ⟨fun _ _ => trivial, ?_⟩
  rw [show o.semAt Fence.wide.round a.eval = execOp a.eval o from Oper.semAt_none _ _]
  generalize (execOp a.eval o).run P w = q at *
  cases q with
  | ok x w' =>
    cases x with
    | value v => exact h
    | skip => exact h
    | defer d => exact h
    | enter f args => exact ⟨(fun h_ => by cases h_), callsIn_wide.2 h⟩
    | row row args => exact ⟨(fun h_ => by cases h_), fun c cs _ => let ⟨v, w'', r, s⟩ := h c cs; ⟨v, w'', r, stepsIn_wide.2 s⟩⟩
    | _ => exact h.elim
  | halt x w' =>
    cases x with
    | panic v => exact h
    | _ => exact h.elim
theorem wpOp_wide (hL : ¬ LetsOut Q) {i : Nat} {a : Act} {w : World} {K K' : Act → World → Prop} (hk : ∀ a w, K a w → K' a w) (h : wpOp P ops Q i K a w) : wpOpIn Fence.wide n P ops Q i K' a w := by
  refine wpOpIn_mono hk ?_
  unfold wpOp at h
  unfold wpOpIn
  cases ho : ops[i]? with
  | none => rw [ho] at h; exact h
  | some o =>
    rw [ho] at h
    dsimp only at h ⊢
    split
    · rename_i hw
      rw [if_pos hw] at h
      exact oper_wide (h.resolve_right fun h => hL h.2)
    · rename_i hw
      rw [if_neg hw] at h
      exact ⟨fun _ _ => trivial, h⟩
theorem wpAny_wide (hL : ¬ LetsOut Q) : ∀ (fuel : Nat) (listed : Array Bool) (a : Act) (w : World), wpAny P md ops Q fuel listed a w → wpAnyIn Fence.wide n P md ops Q fuel listed a w
  | 0, _, _, _, h => h
  | fuel + 1, listed, a, w, h => ⟨h.1, fun i hi => wpOp_wide hL (fun a w => wpAny_wide hL fuel _ a w) (h.2 i hi)⟩
variable {S : World → Prop} {ds : List Nat}
/-- start_ within a round. -/
theorem startR_ {id m r : Nat} {a : Act} {w : World} (l : Array Bool) (hm : P.follows .mixedOrders = true) (hn : ops.size = m) (hl : Array.replicate m false = l) (hL : ¬ LetsOut Q) (hd : noDefer ops.toList = true) (hS : S w.drew)
    (h : S w.drew → wpAnyLast P .any ops Q S ds m l a w.drew) : (Code.region id ops true).wpIn (Fence.wide.inRound r) n P Q a w := by
  subst hn
  subst hl
  refine wpIn_region_any hm (wpAnyIn_inRound r rfl (fun i o ho => noDefer_spec hd i o (by simpa using ho)) _ _ _ _ (wpAny_wide hL _ _ _ _ (wpAny_of_last _ _ _ _ (h hS))))
end
section
open Go.Shelf
attribute [local go_sem] Oper.semAt_some
/-! ### table: nested loops around a range over a function -/
/-- One end in table's innermost loop. -/
def breaker_table.s (prev : List EndV) (i : Int) (s : List EndV) (x : Int × Int) : List EndV := if (re prev x.1).2.2 = true ∧ ((re s i).2.2 = false ∨ wrap64 (x.2 + (re prev x.1).1) < (re s i).1) then s.set i.toNat (wrap64 (x.2 + (re prev x.1).1), x.1, true) else s
/-- The same where the end is brought into the row's range. -/
def breaker_table.c (N : Nat) (prev : List EndV) (i : Int) (s : List EndV) (x : Int × Int) : List EndV := breaker_table.s prev i s (clp N x.1, x.2)
theorem table_c_len (N : Nat) (prev : List EndV) (i : Int) (s : List EndV) (x : Int × Int) : (breaker_table.c N prev i s x).length = s.length := by
  unfold breaker_table.c breaker_table.s
  split
  · exact List.length_set
  · rfl
theorem table_fold_len (N : Nat) (prev : List EndV) (i : Int) : ∀ (ys : List (Int × Int)) (s : List EndV), (ys.foldl (breaker_table.c N prev i) s).length = s.length
  | [], _ => rfl
  | y :: ys, s => by rw [List.foldl_cons, table_fold_len N prev i ys, table_c_len]
theorem table_fold (N : Nat) (prev : List EndV) (i : Int) : ∀ (ys : List (Int × Int)) (s : List EndV), (∀ y ∈ ys, 0 ≤ y.1 ∧ y.1 ≤ (N : Int)) → ys.foldl (breaker_table.c N prev i) s = ys.foldl (breaker_table.s prev i) s
  | [], _, _ => rfl
  | y :: ys, s, h => by
    have h1 := h y List.mem_cons_self
    rw [List.foldl_cons, List.foldl_cons, table_fold N prev i ys _ (fun z hz => h z (List.mem_cons_of_mem _ hz))]
    unfold breaker_table.c
    rw [clp_in h1.1 h1.2]
/-- table's middle loop: m rounds left, from i on. -/
def breaker_table.i (k : Nat) (xs : List S34) (wd ind : Int) (prev : List EndV) : Nat → Nat → List EndV → Option (List EndV)
  | 0, _, s => some s
  | m + 1, i, s => (breaker_problem_lines.l k xs (if (i : Int) > 0 then wrap64 (wd - ind) else wd) i (xs.length - i)).bind fun ys => breaker_table.i k xs wd ind prev m (i + 1) (ys.foldl (breaker_table.s prev (i : Int)) s)
/-- table's rows. -/
def breaker_table.row (k : Nat) (xs : List S34) (wd ind : Int) : Nat → Option (List EndV)
  | 0 => some ((List.replicate (xs.length + 1) ((0, 0, false) : EndV)).set xs.length (0, 0, true))
  | c + 1 => (breaker_table.row k xs wd ind c).bind fun prev => breaker_table.i k xs wd ind prev xs.length 0 (List.replicate (xs.length + 1) ((0, 0, false) : EndV))
theorem table_i_len (k : Nat) (xs : List S34) (wd ind : Int) (prev : List EndV) : ∀ (m i : Nat) (s r : List EndV), breaker_table.i k xs wd ind prev m i s = some r → i + m = xs.length → r.length = s.length
  | 0, _, s, r, h, _ => by rw [Option.some.inj h]
  | m + 1, i, s, r, h, him => by
    simp only [breaker_table.i] at h
    obtain ⟨ys, h1, h2⟩ := Option.bind_eq_some_iff.1 h
    rw [table_i_len k xs wd ind prev m (i + 1) _ r h2 (by omega), ← table_fold xs.length prev (i : Int) ys s (fun y hy => by have := lines_mem h1 (by omega) y hy; omega), table_fold_len]
theorem table_row_len (k : Nat) (xs : List S34) (wd ind : Int) : ∀ (c : Nat) (r : List EndV), breaker_table.row k xs wd ind c = some r → r.length = xs.length + 1
  | 0, r, h => by rw [← Option.some.inj h]; simp
  | c + 1, r, h => by
    simp only [breaker_table.row] at h
    obtain ⟨p, h1, h2⟩ := Option.bind_eq_some_iff.1 h
    rw [table_i_len k xs wd ind p _ _ _ _ h2 (by omega)]
    simp
theorem flatE_set2 : ∀ (o : List EndV) (j : Nat), j < o.length → (o.flatMap encE).set (j * 3 + 2) (.bool true) = (o.set j ((re o (j : Int)).1, (re o (j : Int)).2.1, true)).flatMap encE
  | [], j, h => by simp at h
  | x :: o, 0, _ => rfl
  | x :: o, j + 1, h => by
    have ih := flatE_set2 o j (by simpa using h)
    have e1 : (x :: o).flatMap encE = Value.int .i64 x.1 :: Value.int .i64 x.2.1 :: Value.bool x.2.2 :: o.flatMap encE := rfl
    have e3 : re (x :: o) ((j + 1 : Nat) : Int) = re o (j : Int) := by simp [re]
    rw [e3]
    have e2 : ((x :: o).set (j + 1) ((re o (j : Int)).1, (re o (j : Int)).2.1, true)).flatMap encE = Value.int .i64 x.1 :: Value.int .i64 x.2.1 :: Value.bool x.2.2 :: (o.set j ((re o (j : Int)).1, (re o (j : Int)).2.1, true)).flatMap encE := rfl
    rw [e1, e2, show (j + 1) * 3 + 2 = (j * 3 + 2) + 3 by omega, ← ih]
    rfl
theorem mkEnds_set2 (o : List EndV) (j : Nat) (h : j < o.length) : (mkEnds o).setIfInBounds (j * 3 + 2) (.bool true) = mkEnds (o.set j ((re o (j : Int)).1, (re o (j : Int)).2.1, true)) := by
  unfold mkEnds
  rw [← flatE_set2 o j h]
  simp
/-- What table's outer loop keeps in memory: c rows stand. -/
structure TbI (w : World) (A0 : Option Addr) (c0 : Nat) (l0 : List S34) (a1 a2 : Int) (kk : Nat) (W : World) (cs : Array Value) (rows : Nat → List EndV) (gs : Nat → Nat) (c : Nat) (Ds : List Nat) : Prop where
  i2 : W.heap[w.heap.size]? = some (.cells #[.slice A0 l0.length c0, .int .i64 a1, .int .i64 a2] 46 (0, 0))
  rs : W.heap[w.heap.size + 1]? = some (.cells cs 47 (0, 0))
  i6 : W.heap[w.heap.size + 1 + 1]? = some (.cells #[.slice (some ⟨w.heap.size + 1, 0, none⟩) (kk + 1) (kk + 1)] 62 (0, 0))
  csz : cs.size = kk + 1
  csr : ∀ j, j < c → cs[j]? = some (.slice (some ⟨gs j, 0, none⟩) (l0.length + 1) (l0.length + 1))
  row : ∀ j, j < c → W.heap[gs j]? = some (.cells (mkEnds (rows j)) 52 (0, 0))
  gt : ∀ j, j < c → w.heap.size + 1 + 1 < gs j
  below : Below w.heap.size w W
  opn : Opn W Ds
  low : ∀ D ∈ Ds, w.heap.size ≤ D
/-- What table's middle loop keeps: c rows stand, row c grows. -/
structure TbJ (w : World) (A0 : Option Addr) (c0 : Nat) (l0 : List S34) (a1 a2 : Int) (kk : Nat) (W : World) (cs : Array Value) (rows : Nat → List EndV) (gs : Nat → Nat) (c q : Nat) (s : List EndV) (Ds : List Nat) : Prop where
  i2 : W.heap[w.heap.size]? = some (.cells #[.slice A0 l0.length c0, .int .i64 a1, .int .i64 a2] 46 (0, 0))
  rs : W.heap[w.heap.size + 1]? = some (.cells cs 47 (0, 0))
  i6 : W.heap[w.heap.size + 1 + 1]? = some (.cells #[.slice (some ⟨w.heap.size + 1, 0, none⟩) (kk + 1) (kk + 1)] 62 (0, 0))
  i7 : W.heap[q]? = some (.cells #[.int .i64 (c : Int)] 3 (0, 0))
  gc : W.heap[q + 1]? = some (.cells (mkEnds s) 52 (0, 0))
  len : s.length = l0.length + 1
  row : ∀ j, j < c → W.heap[gs j]? = some (.cells (mkEnds (rows j)) 52 (0, 0))
  below : Below w.heap.size w W
  opn : Opn W Ds
  low : ∀ D ∈ Ds, w.heap.size ≤ D
/-- What the innermost loop's body keeps. -/
structure TbK (w : World) (A0 : Option Addr) (c0 : Nat) (l0 : List S34) (a1 a2 : Int) (kk : Nat) (cs : Array Value) (rows : Nat → List EndV) (gs : Nat → Nat) (c q q8 i : Nat) (Ds : List Nat) (lo : Nat) (s : List EndV) (W : World) : Prop where
  i2 : W.heap[w.heap.size]? = some (.cells #[.slice A0 l0.length c0, .int .i64 a1, .int .i64 a2] 46 (0, 0))
  rs : W.heap[w.heap.size + 1]? = some (.cells cs 47 (0, 0))
  i6 : W.heap[w.heap.size + 1 + 1]? = some (.cells #[.slice (some ⟨w.heap.size + 1, 0, none⟩) (kk + 1) (kk + 1)] 62 (0, 0))
  i7 : W.heap[q]? = some (.cells #[.int .i64 (c : Int)] 3 (0, 0))
  i8 : W.heap[q8]? = some (.cells #[.int .i64 (i : Int)] 3 (0, 0))
  gc : W.heap[q + 1]? = some (.cells (mkEnds s) 52 (0, 0))
  row : ∀ j, j < c → W.heap[gs j]? = some (.cells (mkEnds (rows j)) 52 (0, 0))
  below : Below w.heap.size w W
  opn : Opn W Ds
  sz : lo < W.heap.size
theorem TbK.own {w : World} {A0 : Option Addr} {c0 : Nat} {l0 : List S34} {a1 a2 : Int} {kk : Nat} {cs : Array Value} {rows : Nat → List EndV} {gs : Nat → Nat} {c q q8 i : Nat} {Ds : List Nat} {lo : Nat} {β : Type} (f : β → List EndV) {B : Nat} (hD : ∀ D ∈ Ds, D < B) (hB : w.heap.size ≤ B) : OwnFrom B (fun pre W => TbK w A0 c0 l0 a1 a2 kk cs rows gs c q q8 i Ds lo (f pre) W) := fun pre X Y row hs hg hr =>
  ⟨blk_own B _ (fun _ : Unit => _) _ () X Y row hs.i2 hg hr, blk_own B _ (fun _ : Unit => _) _ () X Y row hs.rs hg hr, blk_own B _ (fun _ : Unit => _) _ () X Y row hs.i6 hg hr, blk_own B _ (fun _ : Unit => _) _ () X Y row hs.i7 hg hr, blk_own B _ (fun _ : Unit => _) _ () X Y row hs.i8 hg hr, blk_own B _ (fun _ : Unit => _) _ () X Y row hs.gc hg hr, fun j hj => blk_own B _ (fun _ : Unit => _) _ () X Y row (hs.row j hj) hg hr, ownFrom_below (Nat.le_refl _) hB () X Y row hs.below hg hr, opn_ownFrom B Ds hD () X Y row hs.opn hg hr, Nat.lt_of_lt_of_le hs.sz hg.size⟩
/-- What a body's steps keep together. -/
def TbS (B p : Nat) (w : World) (A0 : Option Addr) (c0 : Nat) (l0 : List S34) (a1 a2 : Int) (kk : Nat) (cs : Array Value) (rows : Nat → List EndV) (gs : Nat → Nat) (c q q8 i : Nat) (Ds : List Nat) (W : World) (s : List EndV) (W' : World) : Prop := KeepsFrom B W W' ∧ K3 w.heap.size p W W' ∧ TbK w A0 c0 l0 a1 a2 kk cs rows gs c q q8 i Ds (p + 2) s W'
section
variable {B p : Nat} {w : World} {A0 : Option Addr} {c0 : Nat} {l0 : List S34} {a1 a2 : Int} {kk : Nat} {cs : Array Value} {rows : Nat → List EndV} {gs : Nat → Nat} {c q q8 i : Nat} {Ds : List Nat} {W W' : World} {s : List EndV}
theorem TbS.refl (h : TbK w A0 c0 l0 a1 a2 kk cs rows gs c q q8 i Ds (p + 2) s W) : TbS B p w A0 c0 l0 a1 a2 kk cs rows gs c q q8 i Ds W s W := ⟨KeepsFrom.refl _ _, K3.refl _ _ _, h⟩
theorem TbS.alloc (h : TbS B p w A0 c0 l0 a1 a2 kk cs rows gs c q q8 i Ds W s W') (o : Obj) : TbS B p w A0 c0 l0 a1 a2 kk cs rows gs c q q8 i Ds W s (W'.alloc o) :=
  ⟨h.1.trans ((KeepsOthers.alloc W' o).from B), h.2.1.trans (K3.of_below ((Below.refl _ W').alloc (Nat.le_refl _) o) h.2.2.below.size h.2.2.sz),
   blk_alloc h.2.2.i2 o, blk_alloc h.2.2.rs o, blk_alloc h.2.2.i6 o, blk_alloc h.2.2.i7 o, blk_alloc h.2.2.i8 o, blk_alloc h.2.2.gc o, fun j hj => blk_alloc (h.2.2.row j hj) o, h.2.2.below.alloc h.2.2.below.size o, h.2.2.opn.kept (KeepsOthers.alloc _ _), Nat.lt_trans h.2.2.sz (by rw [World.size_alloc]; exact Nat.lt_succ_self _)⟩
theorem TbS.drewN (h : TbS B p w A0 c0 l0 a1 a2 kk cs rows gs c q q8 i Ds W s W') (n : Nat) : TbS B p w A0 c0 l0 a1 a2 kk cs rows gs c q q8 i Ds W s (W'.drewN n) :=
  ⟨h.1.trans ((⟨Nat.le_refl _, fun _ _ h _ => h⟩ : KeepsOthers W' (W'.drewN n)).from B), h.2.1.trans ⟨pw_below_drewN (Below.refl _ _) n, rfl, rfl, rfl⟩,
   blk_drewN h.2.2.i2 n, blk_drewN h.2.2.rs n, blk_drewN h.2.2.i6 n, blk_drewN h.2.2.i7 n, blk_drewN h.2.2.i8 n, blk_drewN h.2.2.gc n, fun j hj => blk_drewN (h.2.2.row j hj) n, pw_below_drewN h.2.2.below n, h.2.2.opn.kept (⟨Nat.le_refl _, fun _ _ h _ => h⟩ : KeepsOthers W' (W'.drewN n)), h.2.2.sz⟩
theorem TbS.drew1 (h : TbS B p w A0 c0 l0 a1 a2 kk cs rows gs c q q8 i Ds W s W') : TbS B p w A0 c0 l0 a1 a2 kk cs rows gs c q q8 i Ds W s W'.drew :=
  ⟨h.1.trans ((⟨Nat.le_refl _, fun _ _ h _ => h⟩ : KeepsOthers W' W'.drew).from B), h.2.1.trans ⟨below_drew1 (Below.refl _ _), rfl, rfl, rfl⟩,
   blk_drew h.2.2.i2, blk_drew h.2.2.rs, blk_drew h.2.2.i6, blk_drew h.2.2.i7, blk_drew h.2.2.i8, blk_drew h.2.2.gc, fun j hj => blk_drew (h.2.2.row j hj), below_drew1 h.2.2.below, h.2.2.opn.drew, h.2.2.sz⟩
theorem TbS.store (h : TbS B p w A0 c0 l0 a1 a2 kk cs rows gs c q q8 i Ds W s W') (hi : i < s.length) (hq : w.heap.size + 1 + 1 < q) (hq8 : q + 1 < q8) (hgs : ∀ j, j < c → gs j < q + 1) (hp : q + 1 < p) (t nx : Int) :
    TbS B p w A0 c0 l0 a1 a2 kk cs rows gs c q q8 i Ds W (s.set i (t, nx, true)) (((W'.setCell ⟨q + 1, i * 3, none⟩ (.int .i64 t)).setCell ⟨q + 1, i * 3 + 1, none⟩ (.int .i64 nx)).setCell ⟨q + 1, i * 3 + 2, none⟩ (.bool true)) := by
  have hk := ((KeepsOthers.setCell W' ⟨q + 1, i * 3, none⟩ (.int .i64 t)).trans (KeepsOthers.setCell _ ⟨q + 1, i * 3 + 1, none⟩ (.int .i64 nx))).trans (KeepsOthers.setCell _ ⟨q + 1, i * 3 + 2, none⟩ (.bool true))
  have far : ∀ {y : Nat} {cs : Array Value} {ty : TypeId}, W'.heap[y]? = some (.cells cs ty (0, 0)) → y ≠ q + 1 → (((W'.setCell ⟨q + 1, i * 3, none⟩ (.int .i64 t)).setCell ⟨q + 1, i * 3 + 1, none⟩ (.int .i64 nx)).setCell ⟨q + 1, i * 3 + 2, none⟩ (.bool true)).heap[y]? = some (.cells cs ty (0, 0)) := fun h e => blk_far (blk_far (blk_far h (p := ⟨q + 1, i * 3, none⟩) e _) (p := ⟨q + 1, i * 3 + 1, none⟩) e _) (p := ⟨q + 1, i * 3 + 2, none⟩) e _
  have same : ∀ y : Nat, y ≠ q + 1 → (((W'.setCell ⟨q + 1, i * 3, none⟩ (.int .i64 t)).setCell ⟨q + 1, i * 3 + 1, none⟩ (.int .i64 nx)).setCell ⟨q + 1, i * 3 + 2, none⟩ (.bool true)).heap[y]? = W'.heap[y]? := fun y e => by
    rw [Below.heap_setCell _ _ _ _ (show y ≠ (⟨q + 1, i * 3 + 2, none⟩ : Addr).block from e), Below.heap_setCell _ _ _ _ (show y ≠ (⟨q + 1, i * 3 + 1, none⟩ : Addr).block from e), Below.heap_setCell _ _ _ _ (show y ≠ (⟨q + 1, i * 3, none⟩ : Addr).block from e)]
  have bel : ∀ {X : World}, Below w.heap.size X W' → Below w.heap.size X (((W'.setCell ⟨q + 1, i * 3, none⟩ (.int .i64 t)).setCell ⟨q + 1, i * 3 + 1, none⟩ (.int .i64 nx)).setCell ⟨q + 1, i * 3 + 2, none⟩ (.bool true)) := fun h => ((h.setCell (p := ⟨q + 1, i * 3, none⟩) (show w.heap.size ≤ q + 1 by omega) _).setCell (p := ⟨q + 1, i * 3 + 1, none⟩) (show w.heap.size ≤ q + 1 by omega) _).setCell (p := ⟨q + 1, i * 3 + 2, none⟩) (show w.heap.size ≤ q + 1 by omega) _
  obtain ⟨h1, h2, h3⟩ := h
  refine ⟨h1.trans (hk.from _), h2.trans ⟨bel (Below.refl _ _), same _ (by omega), same _ (by omega), same _ (by omega)⟩, far h3.i2 (by omega), far h3.rs (by omega), far h3.i6 (by omega), far h3.i7 (by omega), far h3.i8 (by omega), ?_, fun j hj => far (h3.row j hj) (by have := hgs j hj; omega), bel h3.below, h3.opn.kept hk, Nat.lt_of_lt_of_le h3.sz hk.size⟩
  exact blk_put (blk_put (blk_put h3.gc (i * 3) _ rfl) (i * 3 + 1) _ rfl) (i * 3 + 2) _ (mkEnds_set s i (t, nx, true) hi)
end
theorem wpIn_only {F : Fence} {n : Nat} {P : Program} {c : Code} {Q : Exit → Act → World → Prop} {a : Act} {w : World} (h : c.wpIn F n P (fun e a w => match e with | .panic _ => False | .outgrown => False | e => Q e a w) a w) : c.wpIn F n P Q a w := wpIn_mono h (fun e a w h => by
  cases e with
  | panic ch => exact h.elim
  | normal => exact h
  | exit id => exact h
  | goto l => exact h
  | ret => exact h
  | outgrown => exact h.elim)
theorem infoS : (Try.prog.info? 47).map (fun i => (i.zero, i.size, i.bytes)) = some (some (.slice none 0 0), 1, 24) := by kernel_rfl

set_option maxRecDepth 100000 in
set_option maxHeartbeats 4000000 in
theorem table_calls (k : Nat) (A0 : Option Addr) (c0 : Nat) (l0 : List S34) (a1 a2 : Int) (kk : Nat) (rows : Nat → List EndV) (w : World) (hr0 : Kd.C k34 w A0 l0.length l0) (hc0 : l0.length ≤ c0) (hlen : l0.length ≤ 1000) (hkk : kk ≤ l0.length) (hrow : ∀ c, c ≤ kk → breaker_table.row k l0 a1 a2 c = some (rows c)) :
    Calls Try.prog 32 #[.agg #[.slice A0 l0.length c0, .int .i64 a1, .int .i64 a2], .int .i64 (kk : Int)] w fun e w' => ∃ (gr : Nat) (cs : Array Value) (gs : Nat → Nat), e = .returned (.slice (some ⟨gr, 0, none⟩) (kk + 1) (kk + 1)) ∧ w'.heap[gr]? = some (.cells cs 47 (0, 0)) ∧ (∀ c, c ≤ kk → cs[c]? = some (.slice (some ⟨gs c, 0, none⟩) (l0.length + 1) (l0.length + 1))) ∧ (∀ c, c ≤ kk → w'.heap[gs c]? = some (.cells (mkEnds (rows c)) 52 (0, 0))) ∧ Below w.heap.size w w' := by
  have HR := Aside0.mk hr0
  have HC := Aside0.mk hc0
  have HROW := Aside0.mk hrow
  clear hr0 hc0 hrow
  have hu_ := Try.underlying46
  refine (callsIn_wide (n := 8)).1 ?_
  refine callsIn_of_wp_marks Try.func32 rfl trivial ?_ rfl
  simp only [Try.ntmps32, List.size_toArray, List.length_cons, List.length_nil, Nat.reduceAdd, Nat.reduceSub, Array.replicate_succ, Array.replicate_zero, List.push_toArray, List.append_toArray, List.nil_append, List.cons_append]
  have hmkS : ∀ W : World, (Instr.makeSlice 62 (.int .i64 ((kk : Int) + 1)) (.int .i64 ((kk : Int) + 1))).run Try.prog W = .ok (.slice (some ⟨W.heap.size, 0, none⟩) (kk + 1) (kk + 1)) (W.alloc (.cells (madeCells (Value.slice none 0 0).cells ((kk + 1) * 1)) 47)) := fun W => by
    obtain ⟨i0, hi, hz0, hz1, hz2⟩ := info_parts infoS
    have h1 := run_make (P := Try.prog) W 62 47 i0 _ Try.underlying62 hi hz0 .i64 .i64 ((kk : Int) + 1) ((kk : Int) + 1) (by omega) (Int.le_refl _) (by rw [hz2]; omega) (by omega)
    rw [hz1, show ((kk : Int) + 1).toNat = kk + 1 from by omega] at h1
    exact h1
  have hmk : ∀ W : World, (Instr.makeSlice 47 (.int .i64 ((l0.length : Int) + 1)) (.int .i64 ((l0.length : Int) + 1))).run Try.prog W = .ok (.slice (some ⟨W.heap.size, 0, none⟩) (l0.length + 1) (l0.length + 1)) (W.alloc (.cells (mkEnds (List.replicate (l0.length + 1) (0, 0, false))) 52)) := fun W => by
    obtain ⟨i0, hi, hz0, hz1, hz2⟩ := info_parts infoE
    have h1 := run_make (P := Try.prog) W 47 52 i0 _ Try.underlying47 hi hz0 .i64 .i64 ((l0.length : Int) + 1) ((l0.length : Int) + 1) (by omega) (Int.le_refl _) (by rw [hz2]; omega) (by omega)
    rw [hz1, show ((l0.length : Int) + 1).toNat = l0.length + 1 from by omega, madeEnds] at h1
    exact h1
  gi_wp2
  obtain ⟨W1, hW1⟩ : ∃ W1, (((w.alloc (.cells #[.slice A0 l0.length c0, .int .i64 a1, .int .i64 a2] 46)).alloc (.cells (madeCells #[Value.slice none 0 0] (kk + 1)) 47)).alloc (.cells #[.slice (some ⟨w.heap.size + 1, 0, none⟩) (kk + 1) (kk + 1)] 62)) = W1 := ⟨_, rfl⟩
  have hI1 : Aside0 (TbI w A0 c0 l0 a1 a2 kk W1 (madeCells #[Value.slice none 0 0] (kk + 1)) rows (fun _ => 0) 0 []) := ⟨by
    subst hW1
    refine ⟨blk_alloc (blk_alloc (blk_new w _) _) _, ?_, ?_, by simp [madeCells], fun j hj => by omega, fun j hj => by omega, fun j hj => by omega, ((((Below.refl _ w).alloc (Nat.le_refl _) _).alloc (by simp) _).alloc (by simp; omega) _), Opn.nil _, fun D hD => by cases hD⟩
    · have h1 := blk_new (w.alloc (.cells #[.slice A0 l0.length c0, .int .i64 a1, .int .i64 a2] 46)) (.cells (madeCells #[Value.slice none 0 0] (kk + 1)) 47)
      rw [World.size_alloc] at h1
      exact blk_alloc h1 _
    · have h1 := blk_new ((w.alloc (.cells #[.slice A0 l0.length c0, .int .i64 a1, .int .i64 a2] 46)).alloc (.cells (madeCells #[Value.slice none 0 0] (kk + 1)) 47)) (.cells #[.slice (some ⟨w.heap.size + 1, 0, none⟩) (kk + 1) (kk + 1)] 62)
      rw [World.size_alloc, World.size_alloc] at h1
      exact h1⟩
  rw [hW1]
  clear hW1 hmkS
  refine wpIn_loop_g (fun m a W => ∃ (c : Nat) (cs : Array Value) (gs : Nat → Nat) (Ds : List Nat) (u7 u8 u22 u23 u24 u25 u26 u27 u28 u29 u30 u31 u32 u33 u34 u35 u36 u37 u38 u39 u40 u41 u42 u43 u44 u45 u94 u95 : Value), c + m = kk + 1 ∧ Aside0 (TbI w A0 c0 l0 a1 a2 kk W cs rows gs c Ds) ∧ a = { tmps := List.toArray (.agg #[.slice A0 l0.length c0, .int .i64 a1, .int .i64 a2] :: .int .i64 (kk : Int) :: .pointer (some ⟨w.heap.size, 0, none⟩) :: undef :: .slice none 0 0 :: .int .i64 (l0.length : Int) :: .pointer (some ⟨w.heap.size + 1 + 1, 0, none⟩) :: u7 :: u8 :: undef :: undef :: undef :: undef :: .pointer (some ⟨w.heap.size, 0, none⟩) :: .slice A0 l0.length c0 :: .int .i64 (l0.length : Int) :: .int .i64 (kk : Int) :: .int .i64 ((kk : Int) + 1) :: .slice (some ⟨w.heap.size + 1, 0, none⟩) (kk + 1) (kk + 1) :: .slice (some ⟨w.heap.size + 1, 0, none⟩) (kk + 1) (kk + 1) :: .int .i64 ((kk : Int) + 1) :: .int .i64 (c : Int) :: u22 :: u23 :: u24 :: u25 :: u26 :: u27 :: u28 :: u29 :: u30 :: u31 :: u32 :: u33 :: u34 :: u35 :: u36 :: u37 :: u38 :: u39 :: u40 :: u41 :: u42 :: u43 :: u44 :: u45 :: undef :: undef :: undef :: undef :: undef :: undef :: undef :: undef :: undef :: undef :: undef :: undef :: undef :: undef :: undef :: undef :: undef :: undef :: undef :: undef :: undef :: undef :: undef :: undef :: undef :: undef :: undef :: undef :: undef :: undef :: undef :: undef :: undef :: undef :: undef :: undef :: undef :: undef :: undef :: undef :: undef :: undef :: undef :: undef :: undef :: undef :: undef :: undef :: u94 :: u95 :: undef :: []), defers := mks Ds }) (kk + 1) ?start ?round
  case start => exact ⟨0, _, _, [], _, _, _, _, _, _, _, _, _, _, _, _, _, _, _, _, _, _, _, _, _, _, _, _, _, _, _, _, by omega, hI1, rfl⟩
  case round =>
    clear hI1
    rintro m _ W ⟨c, cs, gs, Ds, u7, u8, u22, u23, u24, u25, u26, u27, u28, u29, u30, u31, u32, u33, u34, u35, u36, u37, u38, u39, u40, u41, u42, u43, u44, u45, u94, u95, hcm, HI, rfl⟩
    cases m with
    | zero =>
      obtain rfl : c = kk + 1 := by omega
      have e0 : decide (((kk + 1 : Nat) : Int) < (kk : Int) + 1) = false := decide_eq_false (by omega)
      have e1 : (((kk + 1 : Nat) : Int) < (kk : Int) + 1) = False := eq_false (by omega)
      have h6 : W.cell? ⟨w.heap.size + 1 + 1, 0, none⟩ = some (.slice (some ⟨w.heap.size + 1, 0, none⟩) (kk + 1) (kk + 1)) := (blk_cell HI.out.i6 0).trans rfl
      gi_wp2
      refine leaves_mks (fn := Try.f32) Ds _ HI.out.opn (fun W' hW => ⟨.slice (some ⟨w.heap.size + 1, 0, none⟩) (kk + 1) (kk + 1), by simp [results, Try.f32, go_sem], w.heap.size + 1, rfl, cs, hW.blk HI.out.opn HI.out.rs, gs, fun c hc => HI.out.csr c (by omega), fun c hc => hW.blk HI.out.opn (HI.out.row c (by omega)), HI.out.below.trans (hW.below HI.out.low)⟩)
    | succ m =>
      have hck : c ≤ kk := by omega
      have e0 : decide ((c : Int) < (kk : Int) + 1) = true := decide_eq_true (by omega)
      have e1 : ((c : Int) < (kk : Int) + 1) = True := eq_true (by omega)
      have h6 : W.cell? ⟨w.heap.size + 1 + 1, 0, none⟩ = some (.slice (some ⟨w.heap.size + 1, 0, none⟩) (kk + 1) (kk + 1)) := (blk_cell HI.out.i6 0).trans rfl
      gi_wp2
      have p2 := blk_alloc HI.out.i2 (.cells #[.int .i64 (c : Int)] 3)
      have prs := blk_alloc HI.out.rs (.cells #[.int .i64 (c : Int)] 3)
      have p6 := blk_alloc HI.out.i6 (.cells #[.int .i64 (c : Int)] 3)
      have p7 := blk_new W (.cells #[.int .i64 (c : Int)] 3)
      have prow : Aside0 (∀ j, j < c → (W.alloc (.cells #[.int .i64 (c : Int)] 3)).heap[gs j]? = some (.cells (mkEnds (rows j)) 52 (0, 0))) := ⟨fun j hj => blk_alloc (HI.out.row j hj) _⟩
      have pO : Opn (W.alloc (.cells #[.int .i64 (c : Int)] 3)) Ds := HI.out.opn.kept (KeepsOthers.alloc _ _)
      have pB := HI.out.below.alloc HI.out.below.size (.cells #[.int .i64 (c : Int)] 3)
      have lb := blk_lt HI.out.i6
      have hold := HI.out.opn.lt
      have hcs := HI.out.csz
      have hcsr := Aside0.mk HI.out.csr
      have hgt := Aside0.mk HI.out.gt
      have hlow := HI.out.low
      clear h6 HI e0 e1
      obtain ⟨q, hq⟩ : ∃ q, W.heap.size = q := ⟨_, rfl⟩
      have pS : (W.alloc (.cells #[.int .i64 (c : Int)] 3)).heap.size = q + 1 := by rw [← hq]; exact World.size_alloc _ _
      rw [hq] at p7 lb hold ⊢
      obtain ⟨v0, hv0⟩ : ∃ v0, cs[c]? = some v0 := ⟨cs[c]'(by omega), Array.getElem?_eq_getElem _⟩
      generalize W.alloc (.cells #[.int .i64 (c : Int)] 3) = W5 at p2 prs p6 p7 prow pO pB pS ⊢
      clear hq W
      have ec : (c : Int) < ((kk + 1 : Nat) : Int) := by omega
      have ec2 : (c : Int) < (kk : Int) + 1 := by omega
      have nwl : wrap64 ((l0.length : Int) + 1) = (l0.length : Int) + 1 := by unfold wrap64; omega
      replace p2 := blk_drew p2
      replace prs := blk_drew prs
      replace p6 := blk_drew p6
      replace p7 := blk_drew p7
      replace prow : Aside0 (∀ j, j < c → W5.drew.heap[gs j]? = some (.cells (mkEnds (rows j)) 52 (0, 0))) := ⟨fun j hj => blk_drew (prow.out j hj)⟩
      replace pO : Opn W5.drew Ds := pO.drew
      replace pB := below_drew1 pB
      replace pS : W5.drew.heap.size = q + 1 := pS
      refine wpIn_nopanic (wpIn_wide.2 ?_)
      refine start_ (n := 7) (S := fun w' => w'.cell? ⟨w.heap.size + 1 + 1, 0, none⟩ = some (.slice (some ⟨w.heap.size + 1, 0, none⟩) (kk + 1) (kk + 1)) ∧ w'.cell? ⟨q, 0, none⟩ = some (.int .i64 (c : Int))) (ds := []) #[false, false, false, false, false, false, false] (by kernel_rfl) rfl rfl ⟨(blk_cell p6 0).trans rfl, (blk_cell p7 0).trans rfl⟩ (fun hHeld => ?_)
      generalize W5.drew = Wd at hHeld p2 prs p6 p7 prow pO pB pS ⊢
      refine pure_ (i := 2) (N := some 26) (v := ?_) (a' := ?_) #[false, false, true, false, false, false, false] rfl rfl (by kernel_rfl) (fun _ _ _ h => h) (Or.inl ⟨by rfl, ?_⟩) ?_ ?_
      rotate_left
      · intro w'
        go_simp
        with_reducible rfl
      rotate_left
      · simp only [Act.put, List.setIfInBounds_toArray, List.set_cons_zero, List.set_cons_succ, i64_w, i32_w]
        rfl
      refine pure_ (i := 3) (N := some 27) (v := ?_) (a' := ?_) #[false, false, true, true, false, false, false] rfl rfl (by kernel_rfl) (fun _ _ _ h => h) (Or.inl ⟨by rfl, ?_⟩) ?_ ?_
      rotate_left
      · intro w'
        go_simp
        with_reducible rfl
      rotate_left
      · simp only [Act.put, List.setIfInBounds_toArray, List.set_cons_zero, List.set_cons_succ, i64_w, i32_w]
        rfl
      refine take_ (i := 0) (N := some 24) (v := ?_) (a' := ?_) #[true, false, true, true, false, false, false] rfl rfl (by kernel_rfl) (fun _ _ _ h => h) (Or.inl ⟨by rfl, ?_⟩) hHeld ?_ ?_
      rotate_left
      · rintro w' ⟨s0, s1⟩
        go_simp
        with_reducible rfl
      rotate_left
      · simp only [Act.put, List.setIfInBounds_toArray, List.set_cons_zero, List.set_cons_succ, i64_w, i32_w]
        rfl
      refine take_ (i := 1) (N := some 25) (v := ?_) (a' := ?_) #[true, true, true, true, false, false, false] rfl rfl (by kernel_rfl) (fun _ _ _ h => h) (Or.inl ⟨by rfl, ?_⟩) hHeld ?_ ?_
      rotate_left
      · rintro w' ⟨s0, s1⟩
        go_simp
        with_reducible rfl
      rotate_left
      · simp only [Act.put, List.setIfInBounds_toArray, List.set_cons_zero, List.set_cons_succ, i64_w, i32_w]
        rfl
      refine one_ (i := 4) (N := some 28) #[true, true, true, true, true, false, false] rfl rfl (by kernel_rfl) (by decide) (fun K hK => ?_)
      refine value_ (w1 := ?_) (v := ?_) (by rfl) rfl ?_ ?_
      rotate_left 2
      · go_simp
        constructor
        · rfl
        · rfl
      refine hK.out _ _ ⟨(blk_cell (blk_alloc p6 _) 0).trans rfl, (blk_cell (blk_alloc p7 _) 0).trans rfl⟩ (fun hHeld => ?_)
      clear hK K
      refine norm_ (a' := ?_) ?_ ?_
      rotate_left
      · show Act.put _ (some 28) _ = _
        simp only [Act.put, List.setIfInBounds_toArray, List.set_cons_zero, List.set_cons_succ, i64_w, i32_w]
        rfl
      refine pure_ (i := 5) (N := some 29) (v := ?_) (a' := ?_) #[true, true, true, true, true, true, false] rfl rfl (by kernel_rfl) (fun _ _ _ h => h) (Or.inl ⟨by rfl, ?_⟩) ?_ ?_
      rotate_left
      · intro w'
        go_simp
        with_reducible rfl
      rotate_left
      · simp only [Act.put, List.setIfInBounds_toArray, List.set_cons_zero, List.set_cons_succ, i64_w, i32_w]
        rfl
      refine one_ (i := 6) (N := none) #[true, true, true, true, true, true, true] rfl rfl (by kernel_rfl) (by decide) (fun K hK => ?_)
      have crs : (Wd.alloc (.cells (mkEnds (List.replicate (l0.length + 1) (0, 0, false))) 52)).cell? ⟨w.heap.size + 1, c, none⟩ = some v0 := (blk_cell (blk_alloc prs _) c).trans hv0
      have frs := blk_frozen (blk_alloc prs (.cells (mkEnds (List.replicate (l0.length + 1) (0, 0, false))) 52)) c
      refine skip_ (w1 := ?_) (by rfl) rfl ?_ ?_
      rotate_left
      · go_simp
        rfl
      refine hK.out _ _ ⟨(blk_cell (blk_far (blk_alloc p6 _) (p := ⟨w.heap.size + 1, c, none⟩) (show w.heap.size + 1 + 1 ≠ w.heap.size + 1 by omega) _) 0).trans rfl, (blk_cell (blk_far (blk_alloc p7 _) (p := ⟨w.heap.size + 1, c, none⟩) (show q ≠ w.heap.size + 1 by omega) _) 0).trans rfl⟩ (fun hHeld => ?_)
      clear hK K
      refine done_ (by kernel_rfl) ?_
      clear hHeld hmk
      have s2 := blk_far (blk_alloc p2 (.cells (mkEnds (List.replicate (l0.length + 1) (0, 0, false))) 52)) (p := ⟨w.heap.size + 1, c, none⟩) (show w.heap.size ≠ w.heap.size + 1 by omega) (.slice (some ⟨q + 1, 0, none⟩) (l0.length + 1) (l0.length + 1))
      have srs := blk_put (blk_alloc prs (.cells (mkEnds (List.replicate (l0.length + 1) (0, 0, false))) 52)) c (.slice (some ⟨q + 1, 0, none⟩) (l0.length + 1) (l0.length + 1)) rfl
      have s6 := blk_far (blk_alloc p6 (.cells (mkEnds (List.replicate (l0.length + 1) (0, 0, false))) 52)) (p := ⟨w.heap.size + 1, c, none⟩) (show w.heap.size + 1 + 1 ≠ w.heap.size + 1 by omega) (.slice (some ⟨q + 1, 0, none⟩) (l0.length + 1) (l0.length + 1))
      have s7 := blk_far (blk_alloc p7 (.cells (mkEnds (List.replicate (l0.length + 1) (0, 0, false))) 52)) (p := ⟨w.heap.size + 1, c, none⟩) (show q ≠ w.heap.size + 1 by omega) (.slice (some ⟨q + 1, 0, none⟩) (l0.length + 1) (l0.length + 1))
      have sg0 := blk_new Wd (.cells (mkEnds (List.replicate (l0.length + 1) (0, 0, false))) 52)
      rw [pS] at sg0
      have sg := blk_far sg0 (p := ⟨w.heap.size + 1, c, none⟩) (show q + 1 ≠ w.heap.size + 1 by omega) (.slice (some ⟨q + 1, 0, none⟩) (l0.length + 1) (l0.length + 1))
      have srow : Aside0 (∀ j, j < c → ((Wd.alloc (.cells (mkEnds (List.replicate (l0.length + 1) (0, 0, false))) 52)).setCell ⟨w.heap.size + 1, c, none⟩ (.slice (some ⟨q + 1, 0, none⟩) (l0.length + 1) (l0.length + 1))).heap[gs j]? = some (.cells (mkEnds (rows j)) 52 (0, 0))) := ⟨fun j hj => blk_far (blk_alloc (prow.out j hj) _) (p := ⟨w.heap.size + 1, c, none⟩) (show gs j ≠ w.heap.size + 1 by have := hgt.out j hj; omega) _⟩
      have sO : Opn ((Wd.alloc (.cells (mkEnds (List.replicate (l0.length + 1) (0, 0, false))) 52)).setCell ⟨w.heap.size + 1, c, none⟩ (.slice (some ⟨q + 1, 0, none⟩) (l0.length + 1) (l0.length + 1))) Ds := (pO.kept (KeepsOthers.alloc _ _)).kept (KeepsOthers.setCell _ _ _)
      have sB := (pB.alloc pB.size (.cells (mkEnds (List.replicate (l0.length + 1) (0, 0, false))) 52)).setCell (p := ⟨w.heap.size + 1, c, none⟩) (show w.heap.size ≤ w.heap.size + 1 by omega) (.slice (some ⟨q + 1, 0, none⟩) (l0.length + 1) (l0.length + 1))
      have sS : ((Wd.alloc (.cells (mkEnds (List.replicate (l0.length + 1) (0, 0, false))) 52)).setCell ⟨w.heap.size + 1, c, none⟩ (.slice (some ⟨q + 1, 0, none⟩) (l0.length + 1) (l0.length + 1))).heap.size = q + 1 + 1 := by rw [← pS, ← World.size_alloc Wd (.cells (mkEnds (List.replicate (l0.length + 1) (0, 0, false))) 52)]; simp
      have hlt : Aside0 (∀ j, j < c → gs j < q + 1) := ⟨fun j hj => by rw [← pS]; exact blk_lt (prow.out j hj)⟩
      obtain ⟨cs', hcs'⟩ : ∃ cs', cs.setIfInBounds c (.slice (some ⟨q + 1, 0, none⟩) (l0.length + 1) (l0.length + 1)) = cs' := ⟨_, rfl⟩
      have hcz : cs'.size = kk + 1 := by rw [← hcs', Array.size_setIfInBounds]; exact hcs
      have hcc : cs'[c]? = some (.slice (some ⟨q + 1, 0, none⟩) (l0.length + 1) (l0.length + 1)) := by rw [← hcs', Array.getElem?_setIfInBounds_self]; simp; omega
      have hcj : Aside0 (∀ j, j < c → cs'[j]? = some (.slice (some ⟨gs j, 0, none⟩) (l0.length + 1) (l0.length + 1))) := ⟨fun j hj => by rw [← hcs', Array.getElem?_setIfInBounds_ne (by omega)]; exact hcsr.out j hj⟩
      rw [hcs'] at srs
      show Exit.then _ _ Exit.normal _ _
      generalize (Wd.alloc (.cells (mkEnds (List.replicate (l0.length + 1) (0, 0, false))) 52)).setCell ⟨w.heap.size + 1, c, none⟩ (.slice (some ⟨q + 1, 0, none⟩) (l0.length + 1) (l0.length + 1)) = W6 at s2 srs s6 s7 sg srow sO sB sS ⊢
      clear hcs' hcs hcsr p2 prs p6 p7 prow pO pB pS hv0 sg0
      have c60 : W6.cell? ⟨w.heap.size + 1 + 1, 0, none⟩ = some (.slice (some ⟨w.heap.size + 1, 0, none⟩) (kk + 1) (kk + 1)) := (blk_cell s6 0).trans rfl
      have c70 : W6.cell? ⟨q, 0, none⟩ = some (.int .i64 (c : Int)) := (blk_cell s7 0).trans rfl
      have nwc : wrap64 ((c : Int) + 1) = (c : Int) + 1 := by unfold wrap64; omega
      by_cases hc0 : c = 0
      · subst hc0
        have cz : ((0 : Nat) : Int) = 0 := rfl
        have crs : W6.cell? ⟨w.heap.size + 1, 0, none⟩ = some (.slice (some ⟨q + 1, 0, none⟩) (l0.length + 1) (l0.length + 1)) := (blk_cell srs 0).trans hcc
        have gl := mkEnds_get (List.replicate (l0.length + 1) ((0, 0, false) : EndV)) l0.length (by simp)
        have cl2 : W6.cell? ⟨q + 1, l0.length * 3 + 2, none⟩ = some _ := (blk_cell sg _).trans gl.2.2
        have fl2 := blk_frozen sg (l0.length * 3 + 2)
        gi_wp2
        have hr0 : rows 0 = (List.replicate (l0.length + 1) ((0, 0, false) : EndV)).set l0.length (0, 0, true) := (Option.some.inj (HROW.out 0 (Nat.zero_le _))).symm
        have hset := mkEnds_set2 (List.replicate (l0.length + 1) ((0, 0, false) : EndV)) l0.length (by simp)
        have hre : re (List.replicate (l0.length + 1) ((0, 0, false) : EndV)) (l0.length : Int) = (0, 0, false) := by simp [re]
        rw [hre] at hset
        refine ⟨m, Nat.lt_succ_self m, 1, cs', fun _ => q + 1, Ds, _, _, _, _, _, _, _, _, _, _, _, _, _, _, _, _, _, _, _, _, _, _, _, _, _, _, _, _, by omega, ⟨?_⟩, rfl⟩
        refine ⟨blk_far s2 (p := ⟨q + 1, l0.length * 3 + 2, none⟩) (show w.heap.size ≠ q + 1 by omega) _, blk_far srs (p := ⟨q + 1, l0.length * 3 + 2, none⟩) (show w.heap.size + 1 ≠ q + 1 by omega) _, blk_far s6 (p := ⟨q + 1, l0.length * 3 + 2, none⟩) (show w.heap.size + 1 + 1 ≠ q + 1 by omega) _, hcz, fun j hj => ?_, fun j hj => ?_, fun j hj => by omega, sB.setCell (p := ⟨q + 1, l0.length * 3 + 2, none⟩) (show w.heap.size ≤ q + 1 by omega) _, sO.kept (KeepsOthers.setCell _ _ _), hlow⟩
        · obtain rfl : j = 0 := by omega
          exact hcc
        · obtain rfl : j = 0 := by omega
          rw [hr0, ← hset]
          exact blk_put sg (l0.length * 3 + 2) _ rfl
      · obtain ⟨pc, hpc⟩ : ∃ pc, c = pc + 1 := ⟨c - 1, by omega⟩
        have cz : ((c : Int) == 0) = false := beq_eq_false_iff_ne.2 (by omega)
        have cz' : decide ((c : Int) = 0) = false := decide_eq_false (by omega)
        have cz'' : ((c : Int) = 0) = False := eq_false (by omega)
        have hprow := HROW.out pc (by omega)
        have hplen := table_row_len k l0 a1 a2 _ _ hprow
        have hfin : breaker_table.i k l0 a1 a2 (rows pc) l0.length 0 (List.replicate (l0.length + 1) ((0, 0, false) : EndV)) = some (rows c) := by
          have h1 := HROW.out c hck
          subst hpc
          simp only [breaker_table.row] at h1
          rw [hprow, Option.bind_some] at h1
          exact h1
        have HFIN := Aside0.mk hfin
        have HPL := Aside0.mk hplen
        have HPC := Aside0.mk hpc
        clear hprow hplen hfin hc0 hpc
        gi_wp2
        have hJ0 : Aside0 (TbJ w A0 c0 l0 a1 a2 kk W6 cs' rows gs c q (List.replicate (l0.length + 1) ((0, 0, false) : EndV)) Ds) := ⟨⟨s2, srs, s6, s7, sg, by simp, srow.out, sB, sO, hlow⟩⟩
        clear s2 srs s6 s7 sg srow sB sO hlow c60 c70 sS hold
        refine wpIn_loop_g (fun m' a W => ∃ (i : Nat) (s : List EndV) (Ds : List Nat) (v8 v22 v23 v24 v25 v26 v27 v28 v29 v30 v31 v32 v33 v34 v35 v36 v37 v38 v41 v42 v43 v44 v45 v94 v95 : Value), i + m' = l0.length ∧ Aside0 (breaker_table.i k l0 a1 a2 (rows pc) m' i s = some (rows c)) ∧ Aside0 (TbJ w A0 c0 l0 a1 a2 kk W cs' rows gs c q s Ds) ∧ a = { tmps := List.toArray (.agg #[.slice A0 l0.length c0, .int .i64 a1, .int .i64 a2] :: .int .i64 (kk : Int) :: .pointer (some ⟨w.heap.size, 0, none⟩) :: undef :: .slice none 0 0 :: .int .i64 (l0.length : Int) :: .pointer (some ⟨w.heap.size + 1 + 1, 0, none⟩) :: .pointer (some ⟨q, 0, none⟩) :: v8 :: undef :: undef :: undef :: undef :: .pointer (some ⟨w.heap.size, 0, none⟩) :: .slice A0 l0.length c0 :: .int .i64 (l0.length : Int) :: .int .i64 (kk : Int) :: .int .i64 ((kk : Int) + 1) :: .slice (some ⟨w.heap.size + 1, 0, none⟩) (kk + 1) (kk + 1) :: .slice (some ⟨w.heap.size + 1, 0, none⟩) (kk + 1) (kk + 1) :: .int .i64 ((kk : Int) + 1) :: .int .i64 (c : Int) :: v22 :: v23 :: v24 :: v25 :: v26 :: v27 :: v28 :: v29 :: v30 :: v31 :: v32 :: v33 :: v34 :: v35 :: v36 :: v37 :: v38 :: .int .i64 (l0.length : Int) :: .int .i64 (i : Int) :: v41 :: v42 :: v43 :: v44 :: v45 :: undef :: undef :: undef :: undef :: undef :: undef :: undef :: undef :: undef :: undef :: undef :: undef :: undef :: undef :: undef :: undef :: undef :: undef :: undef :: undef :: undef :: undef :: undef :: undef :: undef :: undef :: undef :: undef :: undef :: undef :: undef :: undef :: undef :: undef :: undef :: undef :: undef :: undef :: undef :: undef :: undef :: undef :: undef :: undef :: undef :: undef :: undef :: undef :: v94 :: v95 :: undef :: []), defers := mks Ds }) l0.length ?start ?round
        case start => exact ⟨0, _, _, _, _, _, _, _, _, _, _, _, _, _, _, _, _, _, _, _, _, _, _, _, _, _, _, _, by omega, HFIN, hJ0, rfl⟩
        case round =>
          clear hJ0 HFIN
          rintro m' _ W ⟨i, s, Ds, v8, v22, v23, v24, v25, v26, v27, v28, v29, v30, v31, v32, v33, v34, v35, v36, v37, v38, v41, v42, v43, v44, v45, v94, v95, him, HQ, HI, rfl⟩
          cases m' with
          | zero =>
            obtain rfl : i = l0.length := by omega
            have e0 : decide ((l0.length : Int) < (l0.length : Int)) = false := decide_eq_false (by omega)
            have e1 : ((l0.length : Int) < (l0.length : Int)) = False := eq_false (by omega)
            gi_wp2
            obtain rfl := Option.some.inj HQ.out
            refine ⟨m, Nat.lt_succ_self m, c + 1, cs', fun j => if j = c then q + 1 else gs j, Ds, _, _, _, _, _, _, _, _, _, _, _, _, _, _, _, _, _, _, _, _, _, _, _, _, _, _, _, _, by omega, ⟨?_⟩, rfl⟩
            have hI := HI.out
            refine ⟨hI.i2, hI.rs, hI.i6, hcz, fun j hj => ?_, fun j hj => ?_, fun j hj => ?_, hI.below, hI.opn, hI.low⟩
            · by_cases hjc : j = c
              · subst hjc
                rw [if_pos rfl]
                exact hcc
              · rw [if_neg hjc]
                exact hcj.out j (by omega)
            · by_cases hjc : j = c
              · subst hjc
                rw [if_pos rfl]
                exact hI.gc
              · rw [if_neg hjc]
                exact hI.row j (by omega)
            · split
              · omega
              · exact hgt.out j (by omega)
          | succ m' =>
            have e0 : decide ((i : Int) < (l0.length : Int)) = true := decide_eq_true (by omega)
            have e1 : ((i : Int) < (l0.length : Int)) = True := eq_true (by omega)
            have h90 : (W.alloc (.cells #[.int .i64 (i : Int)] 3)).cell? ⟨w.heap.size, 0, none⟩ = some (.slice A0 l0.length c0) := (blk_cell (blk_alloc HI.out.i2 _) 0).trans rfl
            have h91 : (W.alloc (.cells #[.int .i64 (i : Int)] 3)).cell? ⟨w.heap.size, 1, none⟩ = some (.int .i64 a1) := (blk_cell (blk_alloc HI.out.i2 _) 1).trans rfl
            have h92 : (W.alloc (.cells #[.int .i64 (i : Int)] 3)).cell? ⟨w.heap.size, 2, none⟩ = some (.int .i64 a2) := (blk_cell (blk_alloc HI.out.i2 _) 2).trans rfl
            obtain ⟨v, hvv⟩ : ∃ v, (if (i : Int) > 0 then wrap64 (a1 - a2) else a1) = v := ⟨_, rfl⟩
            have HVV := Aside0.mk hvv
            clear hvv
            gi_wp2_with (first | (refine ⟨trivial, ?_⟩; gi_at_call 25; (refine (lines_in 7 _ _ _ _ _ _ _ v HVV.out).mono ?_); rintro e w' ⟨rfl, rfl⟩))
            obtain ⟨ys, hys, hrest⟩ := Option.bind_eq_some_iff.1 (show (breaker_problem_lines.l k l0 (if (i : Int) > 0 then wrap64 (a1 - a2) else a1) i (l0.length - i)).bind _ = some (rows c) from HQ.out)
            rw [HVV.out] at hys
            have HYS := Aside0.mk hys
            have HRE := Aside0.mk hrest
            clear HQ hys hrest h90 h91 h92 e0 e1 HVV
            have p2 := blk_alloc HI.out.i2 (.cells #[.int .i64 (i : Int)] 3)
            have prs := blk_alloc HI.out.rs (.cells #[.int .i64 (i : Int)] 3)
            have p6 := blk_alloc HI.out.i6 (.cells #[.int .i64 (i : Int)] 3)
            have p7 := blk_alloc HI.out.i7 (.cells #[.int .i64 (i : Int)] 3)
            have pg := blk_alloc HI.out.gc (.cells #[.int .i64 (i : Int)] 3)
            have p8 := blk_new W (.cells #[.int .i64 (i : Int)] 3)
            have prow : Aside0 (∀ j, j < c → (W.alloc (.cells #[.int .i64 (i : Int)] 3)).heap[gs j]? = some (.cells (mkEnds (rows j)) 52 (0, 0))) := ⟨fun j hj => blk_alloc (HI.out.row j hj) _⟩
            have pO : Opn (W.alloc (.cells #[.int .i64 (i : Int)] 3)) Ds := HI.out.opn.kept (KeepsOthers.alloc _ _)
            have pB := HI.out.below.alloc HI.out.below.size (.cells #[.int .i64 (i : Int)] 3)
            have pS := World.size_alloc W (.cells #[.int .i64 (i : Int)] 3)
            have hlow := HI.out.low
            have hold := HI.out.opn.lt
            have hlq := HI.out.len
            have ltg := blk_lt HI.out.gc
            clear HI
            obtain ⟨q8, hq8⟩ : ∃ q8, W.heap.size = q8 := ⟨_, rfl⟩
            rw [hq8] at p8 pS ltg hold ⊢
            generalize W.alloc (.cells #[.int .i64 (i : Int)] 3) = W8 at p2 prs p6 p7 pg p8 prow pO pB pS ⊢
            clear hq8 W
            have hbz := pB.size
            have rP := blk_alloc (blk_alloc (blk_new W8 (.cells #[.slice A0 l0.length c0, .int .i64 a1, .int .i64 a2] 46)) (.cells #[.int .i64 (i : Int)] 3)) (.cells #[.int .i64 v] 3)
            have rI := blk_alloc (blk_new (W8.alloc (.cells #[.slice A0 l0.length c0, .int .i64 a1, .int .i64 a2] 46)) (.cells #[.int .i64 (i : Int)] 3)) (.cells #[.int .i64 v] 3)
            have rV := blk_new ((W8.alloc (.cells #[.slice A0 l0.length c0, .int .i64 a1, .int .i64 a2] 46)).alloc (.cells #[.int .i64 (i : Int)] 3)) (.cells #[.int .i64 v] 3)
            replace p2 := blk_alloc (blk_alloc (blk_alloc p2 (.cells #[.slice A0 l0.length c0, .int .i64 a1, .int .i64 a2] 46)) (.cells #[.int .i64 (i : Int)] 3)) (.cells #[.int .i64 v] 3)
            replace prs := blk_alloc (blk_alloc (blk_alloc prs (.cells #[.slice A0 l0.length c0, .int .i64 a1, .int .i64 a2] 46)) (.cells #[.int .i64 (i : Int)] 3)) (.cells #[.int .i64 v] 3)
            replace p6 := blk_alloc (blk_alloc (blk_alloc p6 (.cells #[.slice A0 l0.length c0, .int .i64 a1, .int .i64 a2] 46)) (.cells #[.int .i64 (i : Int)] 3)) (.cells #[.int .i64 v] 3)
            replace p7 := blk_alloc (blk_alloc (blk_alloc p7 (.cells #[.slice A0 l0.length c0, .int .i64 a1, .int .i64 a2] 46)) (.cells #[.int .i64 (i : Int)] 3)) (.cells #[.int .i64 v] 3)
            replace pg := blk_alloc (blk_alloc (blk_alloc pg (.cells #[.slice A0 l0.length c0, .int .i64 a1, .int .i64 a2] 46)) (.cells #[.int .i64 (i : Int)] 3)) (.cells #[.int .i64 v] 3)
            replace p8 := blk_alloc (blk_alloc (blk_alloc p8 (.cells #[.slice A0 l0.length c0, .int .i64 a1, .int .i64 a2] 46)) (.cells #[.int .i64 (i : Int)] 3)) (.cells #[.int .i64 v] 3)
            replace prow : Aside0 (∀ j, j < c → (((W8.alloc (.cells #[.slice A0 l0.length c0, .int .i64 a1, .int .i64 a2] 46)).alloc (.cells #[.int .i64 (i : Int)] 3)).alloc (.cells #[.int .i64 v] 3)).heap[gs j]? = some (.cells (mkEnds (rows j)) 52 (0, 0))) := ⟨fun j hj => blk_alloc (blk_alloc (blk_alloc (prow.out j hj) _) _) _⟩
            replace pO : Opn (((W8.alloc (.cells #[.slice A0 l0.length c0, .int .i64 a1, .int .i64 a2] 46)).alloc (.cells #[.int .i64 (i : Int)] 3)).alloc (.cells #[.int .i64 v] 3)) Ds := ((pO.kept (KeepsOthers.alloc _ _)).kept (KeepsOthers.alloc _ _)).kept (KeepsOthers.alloc _ _)
            replace pB := ((pB.alloc pB.size (.cells #[.slice A0 l0.length c0, .int .i64 a1, .int .i64 a2] 46)).alloc (Nat.le_trans pB.size (by simp)) (.cells #[.int .i64 (i : Int)] 3)).alloc (Nat.le_trans pB.size (by simp; omega)) (.cells #[.int .i64 v] 3)
            have pS4 : (((W8.alloc (.cells #[.slice A0 l0.length c0, .int .i64 a1, .int .i64 a2] 46)).alloc (.cells #[.int .i64 (i : Int)] 3)).alloc (.cells #[.int .i64 v] 3)).heap.size = W8.heap.size + 3 := by simp
            rw [World.size_alloc] at rI
            rw [World.size_alloc, World.size_alloc] at rV
            rw [pS] at rP rI rV pS4 hbz
            obtain ⟨p, hpp⟩ : ∃ p, q8 + 1 = p := ⟨_, rfl⟩
            rw [hpp] at rP rI rV pS4 hbz ⊢
            generalize ((W8.alloc (.cells #[.slice A0 l0.length c0, .int .i64 a1, .int .i64 a2] 46)).alloc (.cells #[.int .i64 (i : Int)] 3)).alloc (.cells #[.int .i64 v] 3) = W4 at p2 prs p6 p7 pg p8 prow pO pB pS4 rP rI rV ⊢
            clear pS W8
            have hlt7 : q + 1 < q8 := ltg
            refine wpIn_rangeFunc_ownG rfl (show 1 ≤ 8 by decide) (gf := 36) (lb := #[.pointer (some ⟨p, 0, none⟩), .pointer (some ⟨p + 1, 0, none⟩), .pointer (some ⟨p + 1 + 1, 0, none⟩)]) rfl trivial (enters_of Try.func36 (by kernel_rfl) rfl)
              (lines_stops 7 (by decide) p w.heap.size w rfl (by omega) A0 c0 l0 a1 a2 v i (by omega) HC.out hlen k ys HYS.out HR.out W4 pB rP rI rV) k3K_t (k3K_b (by omega) (by omega)) (Below.refl _ _) (fun _ => rfl)
              (fun pre W' => TbK w A0 c0 l0 a1 a2 kk cs' rows gs c q q8 i Ds (p + 2) (pre.foldl (breaker_table.c l0.length (rows pc) (i : Int)) s) W')
              (fun _ _ _ => False)
              (TbK.own (fun pre : List (Int × Int) => pre.foldl (breaker_table.c l0.length (rows pc) (i : Int)) s) (fun D hD => by have := hold D hD; omega) (by omega))
              (fun _ => fun _ _ _ _ hs _ _ => hs.elim)
              ⟨p2, prs, p6, p7, p8, pg, prow.out, pB, pO, by omega⟩
              (fun x => { tmps := List.toArray (.agg #[.slice A0 l0.length c0, .int .i64 a1, .int .i64 a2] :: .int .i64 (kk : Int) :: .pointer (some ⟨w.heap.size, 0, none⟩) :: undef :: .slice none 0 0 :: .int .i64 (l0.length : Int) :: .pointer (some ⟨w.heap.size + 1 + 1, 0, none⟩) :: .pointer (some ⟨q, 0, none⟩) :: .pointer (some ⟨q8, 0, none⟩) :: .int .i64 (clp l0.length x.1) :: .int .i64 x.2 :: undef :: undef :: .pointer (some ⟨w.heap.size, 0, none⟩) :: .slice A0 l0.length c0 :: .int .i64 (l0.length : Int) :: .int .i64 (kk : Int) :: .int .i64 ((kk : Int) + 1) :: .slice (some ⟨w.heap.size + 1, 0, none⟩) (kk + 1) (kk + 1) :: .slice (some ⟨w.heap.size + 1, 0, none⟩) (kk + 1) (kk + 1) :: .int .i64 ((kk : Int) + 1) :: .int .i64 (c : Int) :: v22 :: v23 :: v24 :: v25 :: v26 :: v27 :: v28 :: v29 :: v30 :: v31 :: v32 :: v33 :: v34 :: v35 :: v36 :: v37 :: v38 :: .int .i64 (l0.length : Int) :: .int .i64 (i : Int) :: .bool true :: .int .i64 (i : Int) :: .agg #[.slice A0 l0.length c0, .int .i64 a1, .int .i64 a2] :: .int .i64 (i : Int) :: .func (.func 36) #[] #[.pointer (some ⟨p, 0, none⟩), .pointer (some ⟨p + 1, 0, none⟩), .pointer (some ⟨p + 1 + 1, 0, none⟩)] :: .int .i64 (clp l0.length x.1) :: .int .i64 x.2 :: undef :: undef :: undef :: undef :: undef :: undef :: undef :: undef :: undef :: undef :: undef :: undef :: undef :: undef :: undef :: undef :: undef :: undef :: undef :: undef :: undef :: undef :: undef :: undef :: undef :: undef :: undef :: undef :: undef :: undef :: undef :: undef :: undef :: undef :: undef :: undef :: undef :: undef :: undef :: undef :: undef :: undef :: undef :: undef :: undef :: undef :: v94 :: v95 :: undef :: []), defers := [] }) ?assign ?body ?done ?stop
            case assign =>
              intro l x W K hK
              gi_wp2
              exact hK
            case body =>
              rintro l pre x W hT _
              clear pS4
              have hmx : Try.prog.follows .mixedOrders = true := by kernel_rfl
              have hpl := table_fold_len l0.length (rows pc) (i : Int) pre s
              obtain ⟨s', hst⟩ : ∃ s', pre.foldl (breaker_table.c l0.length (rows pc) (i : Int)) s = s' := ⟨_, rfl⟩
              rw [hst] at hT hpl
              obtain ⟨hj0, hj1⟩ := clp_range l0.length x.1
              obtain ⟨j, hj⟩ : ∃ j : Nat, clp l0.length x.1 = j := ⟨(clp l0.length x.1).toNat, by omega⟩
              have HJ := Aside0.mk hj
              have HST := Aside0.mk hst
              rw [hj] at hj0 hj1
              have c6 : W.cell? ⟨w.heap.size + 1 + 1, 0, none⟩ = some (.slice (some ⟨w.heap.size + 1, 0, none⟩) (kk + 1) (kk + 1)) := (blk_cell hT.i6 0).trans rfl
              have c7 : W.cell? ⟨q, 0, none⟩ = some (.int .i64 (c : Int)) := (blk_cell hT.i7 0).trans rfl
              have npc : (1 : Int) ≤ (c : Int) := by have := HPC.out; omega
              have npl : (c : Int) - 1 < (kk : Int) + 1 := by omega
              have crs : W.cell? ⟨w.heap.size + 1, c - 1, none⟩ = some (.slice (some ⟨gs pc, 0, none⟩) (l0.length + 1) (l0.length + 1)) := by
                rw [show c - 1 = pc by have := HPC.out; omega]
                exact (blk_cell hT.rs pc).trans (hcj.out pc (by have := HPC.out; omega))
              have hprow := hT.row pc (by have := HPC.out; omega)
              have gj := mkEnds_get (rows pc) j (by have := HPL.out; omega)
              have cj0 : W.cell? ⟨gs pc, j * 3, none⟩ = some (.int .i64 (re (rows pc) (j : Int)).1) := (blk_cell hprow _).trans gj.1
              have cj1 : W.cell? ⟨gs pc, j * 3 + 1, none⟩ = some (.int .i64 (re (rows pc) (j : Int)).2.1) := (blk_cell hprow _).trans gj.2.1
              have cj2 : W.cell? ⟨gs pc, j * 3 + 2, none⟩ = some (.bool (re (rows pc) (j : Int)).2.2) := (blk_cell hprow _).trans gj.2.2
              rw [hj]
              obtain ⟨⟨tm, nm, fd⟩, hre⟩ : ∃ e, re (rows pc) (j : Int) = e := ⟨_, rfl⟩
              have HRE2 := Aside0.mk hre
              rw [hre] at cj0 cj1 cj2
              dsimp only at cj0 cj1 cj2
              have HT := Aside0.mk hT
              clear hj hst gj hprow hre hT HPC
              gi_wp2
              clear c6 c7 crs cj0 cj1 cj2 npc npl
              have hS9 := TbS.alloc (B := W4.heap.size) (p := p) (TbS.refl HT.out) (.cells #[.int .i64 tm, .int .i64 nm, .bool fd] 52)
              have h9 := blk_new W (.cells #[.int .i64 tm, .int .i64 nm, .bool fd] 52)
              have h9s := hS9.2.2
              generalize hbb : W.heap.size = b9 at h9 ⊢
              generalize W.alloc (.cells #[.int .i64 tm, .int .i64 nm, .bool fd] 52) = W9 at hS9 h9 h9s ⊢
              have c6 : W9.cell? ⟨w.heap.size + 1 + 1, 0, none⟩ = some (.slice (some ⟨w.heap.size + 1, 0, none⟩) (kk + 1) (kk + 1)) := (blk_cell h9s.i6 0).trans rfl
              have c7 : W9.cell? ⟨q, 0, none⟩ = some (.int .i64 (c : Int)) := (blk_cell h9s.i7 0).trans rfl
              have c8 : W9.cell? ⟨q8, 0, none⟩ = some (.int .i64 (i : Int)) := (blk_cell h9s.i8 0).trans rfl
              have crs : W9.cell? ⟨w.heap.size + 1, c, none⟩ = some (.slice (some ⟨q + 1, 0, none⟩) (l0.length + 1) (l0.length + 1)) := (blk_cell h9s.rs c).trans hcc
              have gi := mkEnds_get s' i (by omega)
              have ci0 : W9.cell? ⟨q + 1, i * 3, none⟩ = some (.int .i64 (re s' (i : Int)).1) := (blk_cell h9s.gc _).trans gi.1
              have ci2 : W9.cell? ⟨q + 1, i * 3 + 2, none⟩ = some (.bool (re s' (i : Int)).2.2) := (blk_cell h9s.gc _).trans gi.2.2
              have c92 : W9.cell? ⟨b9, 2, none⟩ = some (.bool fd) := (blk_cell h9 2).trans rfl
              obtain ⟨⟨ti, ni, fi⟩, hri⟩ : ∃ e, re s' (i : Int) = e := ⟨_, rfl⟩
              have HRI := Aside0.mk hri
              rw [hri] at ci0 ci2
              dsimp only at ci0 ci2
              have qi : (i : Int) < (l0.length : Int) + 1 := by omega
              have hfold : (pre ++ [x]).foldl (breaker_table.c l0.length (rows pc) (i : Int)) s = breaker_table.c l0.length (rows pc) (i : Int) s' x := by rw [List.foldl_append, HST.out]; rfl
              have HF := Aside0.mk hfold
              have HS9 := Aside0.mk hS9
              clear hfold gi hri hS9 h9s hbb
              cases fd with
              | false =>
                refine region_quiet_round l (F := Fence.wide) rfl hmx (by kernel_rfl) (by kernel_rfl) ?_
                repeat (gi_big_quiet_step (fail))
                refine wpQuietIn_nil ?_
                intro _ hw'
                obtain ⟨nq, hw''⟩ := hw'
                subst hw''
                gi_wp2
                have hr := HS9.out.drewN nq
                have e : breaker_table.c l0.length (rows pc) (i : Int) s' x = s' := by
                  unfold breaker_table.c breaker_table.s
                  dsimp only
                  rw [HJ.out, HRE2.out, if_neg (fun h => by cases h.1)]
                refine ⟨hr.1, hr.2.1, ?_⟩
                try dsimp only
                rw [HF.out, e]
                exact hr.2.2
              | true =>
                have ci1 : W9.cell? ⟨q + 1, i * 3 + 1, none⟩ = some (.int .i64 ni) := (blk_cell HS9.out.2.2.gc _).trans (by rw [(mkEnds_get s' i (by omega)).2.1, HRI.out])
                have fi0 := blk_frozen HS9.out.2.2.gc (i * 3)
                have fi1 := blk_frozen HS9.out.2.2.gc (i * 3 + 1)
                have fi2 := blk_frozen HS9.out.2.2.gc (i * 3 + 2)
                cases fi with
                | false =>
                  refine region_quiet_round l (F := Fence.wide) rfl hmx (by kernel_rfl) (by kernel_rfl) ?_
                  repeat (gi_big_quiet_step (fail))
                  refine wpQuietIn_nil ?_
                  intro _ hw'
                  obtain ⟨nq, hw''⟩ := hw'
                  subst hw''
                  gi_wp2
                  refine wpIn_only ?_
                  have ci0' : (W9.drewN nq).drew.cell? ⟨q + 1, i * 3, none⟩ = some (.int .i64 ti) := ci0
                  have ci1' : (W9.drewN nq).drew.cell? ⟨q + 1, i * 3 + 1, none⟩ = some (.int .i64 ni) := ci1
                  have ci2' : (W9.drewN nq).drew.cell? ⟨q + 1, i * 3 + 2, none⟩ = some (.bool _) := ci2
                  have fi0' : (W9.drewN nq).drew.frozen? ⟨q + 1, i * 3, none⟩ = false := fi0
                  have fi1' : (W9.drewN nq).drew.frozen? ⟨q + 1, i * 3 + 1, none⟩ = false := fi1
                  have fi2' : (W9.drewN nq).drew.frozen? ⟨q + 1, i * 3 + 2, none⟩ = false := fi2
                  have hlt2 := hlt7
                  refine startR_ (m := 10) (S := fun w' => w'.cell? ⟨w.heap.size + 1 + 1, 0, none⟩ = some (.slice (some ⟨w.heap.size + 1, 0, none⟩) (kk + 1) (kk + 1)) ∧ w'.cell? ⟨q, 0, none⟩ = some (.int .i64 (c : Int)) ∧ w'.cell? ⟨q8, 0, none⟩ = some (.int .i64 (i : Int)) ∧ w'.cell? ⟨w.heap.size + 1, c, none⟩ = some (.slice (some ⟨q + 1, 0, none⟩) (l0.length + 1) (l0.length + 1))) (ds := [9]) #[false, false, false, false, false, false, false, false, false, false] (by kernel_rfl) rfl rfl ?hL (by kernel_rfl) ⟨c6, c7, c8, crs⟩ (fun hHeld => ?_)
                  case hL => exact fun ⟨_, _, h_⟩ => h_
                  refine pure_ (i := 5) (N := some 90) (v := ?_) (a' := ?_) #[false, false, false, false, false, true, false, false, false, false] rfl rfl (by kernel_rfl) (fun _ _ _ h => h) (Or.inl ⟨by rfl, ?_⟩) ?_ ?_
                  rotate_left
                  · intro w'
                    go_simp
                    with_reducible rfl
                  rotate_left
                  · simp only [Act.put, List.setIfInBounds_toArray, List.set_cons_zero, List.set_cons_succ, i64_w, i32_w]
                    rfl
                  refine pure_ (i := 6) (N := some 91) (v := ?_) (a' := ?_) #[false, false, false, false, false, true, true, false, false, false] rfl rfl (by kernel_rfl) (fun _ _ _ h => h) (Or.inl ⟨by rfl, ?_⟩) ?_ ?_
                  rotate_left
                  · intro w'
                    go_simp
                    with_reducible rfl
                  rotate_left
                  · simp only [Act.put, List.setIfInBounds_toArray, List.set_cons_zero, List.set_cons_succ, i64_w, i32_w]
                    rfl
                  refine pure_ (i := 7) (N := some 92) (v := ?_) (a' := ?_) #[false, false, false, false, false, true, true, true, false, false] rfl rfl (by kernel_rfl) (fun _ _ _ h => h) (Or.inl ⟨by rfl, ?_⟩) ?_ ?_
                  rotate_left
                  · intro w'
                    go_simp
                    with_reducible rfl
                  rotate_left
                  · simp only [Act.put, List.setIfInBounds_toArray, List.set_cons_zero, List.set_cons_succ, i64_w, i32_w]
                    rfl
                  refine take_ (i := 0) (N := some 85) (v := ?_) (a' := ?_) #[true, false, false, false, false, true, true, true, false, false] rfl rfl (by kernel_rfl) (fun _ _ _ h => h) (Or.inl ⟨by rfl, ?_⟩) hHeld ?_ ?_
                  rotate_left
                  · rintro w' ⟨s0, s1, s2, s3⟩
                    go_simp
                    with_reducible rfl
                  rotate_left
                  · simp only [Act.put, List.setIfInBounds_toArray, List.set_cons_zero, List.set_cons_succ, i64_w, i32_w]
                    rfl
                  refine take_ (i := 1) (N := some 86) (v := ?_) (a' := ?_) #[true, true, false, false, false, true, true, true, false, false] rfl rfl (by kernel_rfl) (fun _ _ _ h => h) (Or.inl ⟨by rfl, ?_⟩) hHeld ?_ ?_
                  rotate_left
                  · rintro w' ⟨s0, s1, s2, s3⟩
                    go_simp
                    with_reducible rfl
                  rotate_left
                  · simp only [Act.put, List.setIfInBounds_toArray, List.set_cons_zero, List.set_cons_succ, i64_w, i32_w]
                    rfl
                  refine pure_ (i := 2) (N := some 87) (v := ?_) (a' := ?_) #[true, true, true, false, false, true, true, true, false, false] rfl rfl (by kernel_rfl) (fun _ _ _ h => h) (Or.inl ⟨by rfl, ?_⟩) ?_ ?_
                  rotate_left
                  · intro w'
                    go_simp
                    with_reducible rfl
                  rotate_left
                  · simp only [Act.put, List.setIfInBounds_toArray, List.set_cons_zero, List.set_cons_succ, i64_w, i32_w]
                    rfl
                  refine take_ (i := 3) (N := some 88) (v := ?_) (a' := ?_) #[true, true, true, true, false, true, true, true, false, false] rfl rfl (by kernel_rfl) (fun _ _ _ h => h) (Or.inl ⟨by rfl, ?_⟩) hHeld ?_ ?_
                  rotate_left
                  · rintro w' ⟨s0, s1, s2, s3⟩
                    go_simp
                    with_reducible rfl
                  rotate_left
                  · simp only [Act.put, List.setIfInBounds_toArray, List.set_cons_zero, List.set_cons_succ, i64_w, i32_w]
                    rfl
                  refine take_ (i := 4) (N := some 89) (v := ?_) (a' := ?_) #[true, true, true, true, true, true, true, true, false, false] rfl rfl (by kernel_rfl) (fun _ _ _ h => h) (Or.inl ⟨by rfl, ?_⟩) hHeld ?_ ?_
                  rotate_left
                  · rintro w' ⟨s0, s1, s2, s3⟩
                    go_simp
                    with_reducible rfl
                  rotate_left
                  · simp only [Act.put, List.setIfInBounds_toArray, List.set_cons_zero, List.set_cons_succ, i64_w, i32_w]
                    rfl
                  refine pure_ (i := 8) (N := some 93) (v := ?_) (a' := ?_) #[true, true, true, true, true, true, true, true, true, false] rfl rfl (by kernel_rfl) (fun _ _ _ h => h) (Or.inl ⟨by rfl, ?_⟩) ?_ ?_
                  rotate_left
                  · intro w'
                    go_simp
                    with_reducible rfl
                  rotate_left
                  · simp only [Act.put, List.setIfInBounds_toArray, List.set_cons_zero, List.set_cons_succ, i64_w, i32_w]
                    rfl
                  refine last_ (i := 9) (N := none) #[true, true, true, true, true, true, true, true, true, true] rfl rfl (by kernel_rfl) (by decide) (fun K hK => ?_)
                  refine skip_ (w1 := ?_) (by rfl) rfl ?_ ?_
                  rotate_left
                  · go_simp
                    rfl
                  refine hK.out _ _ ?_
                  clear hK K
                  refine done_ (by kernel_rfl) ?_
                  show Exit.inBlock _ _ Exit.normal _ _
                  gi_wp2
                  have hr := (TbS.drew1 (HS9.out.drewN nq)).store (t := wrap64 (x.2 + tm)) (nx := (j : Int)) (by omega) (by omega) hlt7 hlt.out (by omega)
                  have e : breaker_table.c l0.length (rows pc) (i : Int) s' x = s'.set i (wrap64 (x.2 + tm), (j : Int), true) := by
                    unfold breaker_table.c breaker_table.s
                    dsimp only
                    rw [HJ.out, HRE2.out, HRI.out, if_pos ⟨rfl, .inl rfl⟩, Int.toNat_natCast]
                  refine ⟨hr.1, hr.2.1, ?_⟩
                  try dsimp only
                  rw [HF.out, e]
                  exact hr.2.2
                | true =>
                  by_cases hlt : wrap64 (x.2 + tm) < ti
                  · have e2 : decide (wrap64 (x.2 + tm) < ti) = true := decide_eq_true hlt
                    have HLT := Aside0.mk hlt
                    clear hlt
                    refine region_quiet_round l (F := Fence.wide) rfl hmx (by kernel_rfl) (by kernel_rfl) ?_
                    repeat (gi_big_quiet_step (fail))
                    refine wpQuietIn_nil ?_
                    intro _ hw'
                    obtain ⟨nq, hw''⟩ := hw'
                    subst hw''
                    gi_wp2
                    refine wpIn_only ?_
                    have ci0' : (W9.drewN nq).drew.cell? ⟨q + 1, i * 3, none⟩ = some (.int .i64 ti) := ci0
                    have ci1' : (W9.drewN nq).drew.cell? ⟨q + 1, i * 3 + 1, none⟩ = some (.int .i64 ni) := ci1
                    have ci2' : (W9.drewN nq).drew.cell? ⟨q + 1, i * 3 + 2, none⟩ = some (.bool _) := ci2
                    have fi0' : (W9.drewN nq).drew.frozen? ⟨q + 1, i * 3, none⟩ = false := fi0
                    have fi1' : (W9.drewN nq).drew.frozen? ⟨q + 1, i * 3 + 1, none⟩ = false := fi1
                    have fi2' : (W9.drewN nq).drew.frozen? ⟨q + 1, i * 3 + 2, none⟩ = false := fi2
                    have hlt2 := hlt7
                    refine startR_ (m := 10) (S := fun w' => w'.cell? ⟨w.heap.size + 1 + 1, 0, none⟩ = some (.slice (some ⟨w.heap.size + 1, 0, none⟩) (kk + 1) (kk + 1)) ∧ w'.cell? ⟨q, 0, none⟩ = some (.int .i64 (c : Int)) ∧ w'.cell? ⟨q8, 0, none⟩ = some (.int .i64 (i : Int)) ∧ w'.cell? ⟨w.heap.size + 1, c, none⟩ = some (.slice (some ⟨q + 1, 0, none⟩) (l0.length + 1) (l0.length + 1))) (ds := [9]) #[false, false, false, false, false, false, false, false, false, false] (by kernel_rfl) rfl rfl ?hL (by kernel_rfl) ⟨c6, c7, c8, crs⟩ (fun hHeld => ?_)
                    case hL => exact fun ⟨_, _, h_⟩ => h_
                    refine pure_ (i := 5) (N := some 90) (v := ?_) (a' := ?_) #[false, false, false, false, false, true, false, false, false, false] rfl rfl (by kernel_rfl) (fun _ _ _ h => h) (Or.inl ⟨by rfl, ?_⟩) ?_ ?_
                    rotate_left
                    · intro w'
                      go_simp
                      with_reducible rfl
                    rotate_left
                    · simp only [Act.put, List.setIfInBounds_toArray, List.set_cons_zero, List.set_cons_succ, i64_w, i32_w]
                      rfl
                    refine pure_ (i := 6) (N := some 91) (v := ?_) (a' := ?_) #[false, false, false, false, false, true, true, false, false, false] rfl rfl (by kernel_rfl) (fun _ _ _ h => h) (Or.inl ⟨by rfl, ?_⟩) ?_ ?_
                    rotate_left
                    · intro w'
                      go_simp
                      with_reducible rfl
                    rotate_left
                    · simp only [Act.put, List.setIfInBounds_toArray, List.set_cons_zero, List.set_cons_succ, i64_w, i32_w]
                      rfl
                    refine pure_ (i := 7) (N := some 92) (v := ?_) (a' := ?_) #[false, false, false, false, false, true, true, true, false, false] rfl rfl (by kernel_rfl) (fun _ _ _ h => h) (Or.inl ⟨by rfl, ?_⟩) ?_ ?_
                    rotate_left
                    · intro w'
                      go_simp
                      with_reducible rfl
                    rotate_left
                    · simp only [Act.put, List.setIfInBounds_toArray, List.set_cons_zero, List.set_cons_succ, i64_w, i32_w]
                      rfl
                    refine take_ (i := 0) (N := some 85) (v := ?_) (a' := ?_) #[true, false, false, false, false, true, true, true, false, false] rfl rfl (by kernel_rfl) (fun _ _ _ h => h) (Or.inl ⟨by rfl, ?_⟩) hHeld ?_ ?_
                    rotate_left
                    · rintro w' ⟨s0, s1, s2, s3⟩
                      go_simp
                      with_reducible rfl
                    rotate_left
                    · simp only [Act.put, List.setIfInBounds_toArray, List.set_cons_zero, List.set_cons_succ, i64_w, i32_w]
                      rfl
                    refine take_ (i := 1) (N := some 86) (v := ?_) (a' := ?_) #[true, true, false, false, false, true, true, true, false, false] rfl rfl (by kernel_rfl) (fun _ _ _ h => h) (Or.inl ⟨by rfl, ?_⟩) hHeld ?_ ?_
                    rotate_left
                    · rintro w' ⟨s0, s1, s2, s3⟩
                      go_simp
                      with_reducible rfl
                    rotate_left
                    · simp only [Act.put, List.setIfInBounds_toArray, List.set_cons_zero, List.set_cons_succ, i64_w, i32_w]
                      rfl
                    refine pure_ (i := 2) (N := some 87) (v := ?_) (a' := ?_) #[true, true, true, false, false, true, true, true, false, false] rfl rfl (by kernel_rfl) (fun _ _ _ h => h) (Or.inl ⟨by rfl, ?_⟩) ?_ ?_
                    rotate_left
                    · intro w'
                      go_simp
                      with_reducible rfl
                    rotate_left
                    · simp only [Act.put, List.setIfInBounds_toArray, List.set_cons_zero, List.set_cons_succ, i64_w, i32_w]
                      rfl
                    refine take_ (i := 3) (N := some 88) (v := ?_) (a' := ?_) #[true, true, true, true, false, true, true, true, false, false] rfl rfl (by kernel_rfl) (fun _ _ _ h => h) (Or.inl ⟨by rfl, ?_⟩) hHeld ?_ ?_
                    rotate_left
                    · rintro w' ⟨s0, s1, s2, s3⟩
                      go_simp
                      with_reducible rfl
                    rotate_left
                    · simp only [Act.put, List.setIfInBounds_toArray, List.set_cons_zero, List.set_cons_succ, i64_w, i32_w]
                      rfl
                    refine take_ (i := 4) (N := some 89) (v := ?_) (a' := ?_) #[true, true, true, true, true, true, true, true, false, false] rfl rfl (by kernel_rfl) (fun _ _ _ h => h) (Or.inl ⟨by rfl, ?_⟩) hHeld ?_ ?_
                    rotate_left
                    · rintro w' ⟨s0, s1, s2, s3⟩
                      go_simp
                      with_reducible rfl
                    rotate_left
                    · simp only [Act.put, List.setIfInBounds_toArray, List.set_cons_zero, List.set_cons_succ, i64_w, i32_w]
                      rfl
                    refine pure_ (i := 8) (N := some 93) (v := ?_) (a' := ?_) #[true, true, true, true, true, true, true, true, true, false] rfl rfl (by kernel_rfl) (fun _ _ _ h => h) (Or.inl ⟨by rfl, ?_⟩) ?_ ?_
                    rotate_left
                    · intro w'
                      go_simp
                      with_reducible rfl
                    rotate_left
                    · simp only [Act.put, List.setIfInBounds_toArray, List.set_cons_zero, List.set_cons_succ, i64_w, i32_w]
                      rfl
                    refine last_ (i := 9) (N := none) #[true, true, true, true, true, true, true, true, true, true] rfl rfl (by kernel_rfl) (by decide) (fun K hK => ?_)
                    refine skip_ (w1 := ?_) (by rfl) rfl ?_ ?_
                    rotate_left
                    · go_simp
                      rfl
                    refine hK.out _ _ ?_
                    clear hK K
                    refine done_ (by kernel_rfl) ?_
                    show Exit.inBlock _ _ Exit.normal _ _
                    gi_wp2
                    have hr := (TbS.drew1 (HS9.out.drewN nq)).store (t := wrap64 (x.2 + tm)) (nx := (j : Int)) (by omega) (by omega) hlt7 hlt.out (by omega)
                    have e : breaker_table.c l0.length (rows pc) (i : Int) s' x = s'.set i (wrap64 (x.2 + tm), (j : Int), true) := by
                      unfold breaker_table.c breaker_table.s
                      dsimp only
                      rw [HJ.out, HRE2.out, HRI.out, if_pos ⟨rfl, .inr HLT.out⟩, Int.toNat_natCast]
                    refine ⟨hr.1, hr.2.1, ?_⟩
                    try dsimp only
                    rw [HF.out, e]
                    exact hr.2.2
                  · have e2 : decide (wrap64 (x.2 + tm) < ti) = false := decide_eq_false hlt
                    have HLT := Aside0.mk hlt
                    clear hlt
                    refine region_quiet_round l (F := Fence.wide) rfl hmx (by kernel_rfl) (by kernel_rfl) ?_
                    repeat (gi_big_quiet_step (fail))
                    refine wpQuietIn_nil ?_
                    intro _ hw'
                    obtain ⟨nq, hw''⟩ := hw'
                    subst hw''
                    gi_wp2
                    have hr := HS9.out.drewN nq
                    have e : breaker_table.c l0.length (rows pc) (i : Int) s' x = s' := by
                      unfold breaker_table.c breaker_table.s
                      dsimp only
                      rw [HJ.out, HRE2.out, HRI.out, if_neg (fun h => h.2.elim (fun h => by cases h) (fun h => absurd h (by have := HLT.out; dsimp only; omega)))]
                    refine ⟨hr.1, hr.2.1, ?_⟩
                    try dsimp only
                    rw [HF.out, e]
                    exact hr.2.2
            case done =>
              rintro D ys' W hD rfl hT hK
              have HD := Aside0.mk (hT.opn.cons (w := W) hK (fun h => by have := hold D h; omega))
              clear hK
              gi_wp2
              refine ⟨m', Nat.lt_succ_self m', i + 1, ys'.foldl (breaker_table.c l0.length (rows pc) (i : Int)) s, D :: Ds, _, _, _, _, _, _, _, _, _, _, _, _, _, _, _, _, _, _, _, _, _, _, _, _, _, by omega, ⟨?_⟩, ⟨?_⟩, rfl⟩
              · rw [table_fold l0.length (rows pc) (i : Int) ys' s (fun y hy => by have := lines_mem HYS.out (by omega) y hy; omega)]
                exact HRE.out
              · exact ⟨hT.i2, hT.rs, hT.i6, hT.i7, hT.gc, by rw [table_fold_len]; exact hlq, hT.row, hT.below, HD.out, fun D' hD' => (List.mem_cons.1 hD').elim (fun e => by omega) (fun e => hlow D' e)⟩
            case stop => exact fun _ _ _ _ _ _ hf _ => hf.elim
end
/-! ### Lines -/
def breaker_Lines.f (k : Nat) (l0 : List S34) (a1 a2 a3 : Int) : Option (List Int × Int × Int) :=
  (breaker_problem_valid.f k l0 a1 a2).bind fun v => if v = true then (if a3 < 1 ∨ a3 > (l0.length : Int) then some ([], 0, 8) else (if l0.length ≤ 1000 then (breaker_table.row k l0 a1 a2 a3.toNat).bind fun r => (if (re r 0).2.2 = true then (breaker_follow_lines.l l0.length a3.toNat (fun c i => (re ((breaker_table.row k l0 a1 a2 c).getD []) i).2.1) k [] 0 0).bind fun st => some (st, (re r 0).1, 0) else some ([], 0, 8)) else none)) else some ([], 0, 1)
theorem table_row_down (k : Nat) (xs : List S34) (wd ind : Int) : ∀ (c : Nat) (r : List EndV), breaker_table.row k xs wd ind c = some r → ∀ j, j ≤ c → ∃ r', breaker_table.row k xs wd ind j = some r'
  | 0, r, h, j, hj => ⟨r, by rw [show j = 0 by omega]; exact h⟩
  | c + 1, r, h, j, hj => by
    by_cases e : j = c + 1
    · exact ⟨r, by rw [e]; exact h⟩
    · simp only [breaker_table.row] at h
      obtain ⟨p, h1, _⟩ := Option.bind_eq_some_iff.1 h
      exact table_row_down k xs wd ind c p h1 j (by omega)
theorem table_row_getD (k : Nat) (xs : List S34) (wd ind : Int) (c : Nat) (r : List EndV) (h : breaker_table.row k xs wd ind c = some r) (j : Nat) (hj : j ≤ c) : breaker_table.row k xs wd ind j = some ((breaker_table.row k xs wd ind j).getD []) := by
  obtain ⟨r', h'⟩ := table_row_down k xs wd ind c r h j hj
  rw [h']
  rfl
set_option maxRecDepth 100000 in
set_option maxHeartbeats 4000000 in
theorem breaker_Lines.calls (k : Nat) (A0 : Option Addr) (c0 : Nat) (l0 : List S34) (a1 a2 a3 : Int) (r1 : List Int) (r2 r3 : Int) (w : World) (hr0 : Kd.C k34 w A0 l0.length l0) (hc0 : l0.length ≤ c0) (h : breaker_Lines.f k l0 a1 a2 a3 = some (r1, r2, r3)) :
    Calls Try.prog 19 #[.slice A0 l0.length c0, .int .i64 a1, .int .i64 a2, .int .i64 a3] w fun e w' => ∃ v0_ : Value, e = .returned (.tuple #[v0_, .int .i64 r2, .int .i64 r3]) ∧ Kd.R (Kd.int .i64) 3 w' w.heap.size (fun _ => True) v0_ r1 ∧ Below w.heap.size w w' := by
  have HR := Aside0.mk hr0
  have HC := Aside0.mk hc0
  clear hr0 hc0
  unfold breaker_Lines.f at h
  obtain ⟨v, hv, h⟩ := Option.bind_eq_some_iff.1 h
  have HV := Aside0.mk hv
  clear hv
  have hu_ := Try.underlying46
  go_enter Try.func19, Try.ntmps19
  have HB1 := Aside0.mk (((Below.refl w.heap.size w).alloc (Nat.le_refl _) (.cells #[.int .i64 a3] 3)).alloc (by simp) (.cells #[.slice A0 l0.length c0, .int .i64 a1, .int .i64 a2] 46))
  have HI7 := Aside0.mk (blk_alloc (blk_new w (.cells #[.int .i64 a3] 3)) (.cells #[.slice A0 l0.length c0, .int .i64 a1, .int .i64 a2] 46))
  have hi := blk_new (w.alloc (.cells #[.int .i64 a3] 3)) (.cells #[.slice A0 l0.length c0, .int .i64 a1, .int .i64 a2] 46)
  rw [World.size_alloc] at hi
  have HI11 := Aside0.mk hi
  have HS1 := Aside0.mk (show ((w.alloc (.cells #[.int .i64 a3] 3)).alloc (.cells #[.slice A0 l0.length c0, .int .i64 a1, .int .i64 a2] 46)).heap.size = w.heap.size + 2 by simp)
  clear hi
  cases v with
  | false =>
    rw [if_neg (by decide)] at h
    simp only [Option.some.injEq, Prod.mk.injEq] at h
    obtain ⟨rfl, rfl, rfl⟩ := h
    go_wp2_with (go_at_fn 24)
    refine (breaker_problem_valid.calls k _ _ l0 a1 a2 false _ ?s1 ?s2 HV.out).mono ?_
    case s1 => exact Kd.C_below HR.out HB1.out
    case s2 => exact HC.out
    rintro e w5 ⟨rfl, hb⟩
    have HB2 := Aside0.mk (HB1.out.trans (hb.mono HB1.out.size))
    clear hb
    go_wp2
    refine bodyPost_ret (results_tmp3 rfl _ _ _) rfl ?_
    exact ⟨_, rfl, Kd.R_nil _ _ _ _ _, HB2.out⟩
  | true =>
    rw [if_pos rfl] at h
    go_wp2_with (go_at_fn 24)
    refine (breaker_problem_valid.calls k _ _ l0 a1 a2 true _ ?s1 ?s2 HV.out).mono ?_
    case s1 => exact Kd.C_below HR.out HB1.out
    case s2 => exact HC.out
    rintro e w5 ⟨rfl, hb⟩
    have HB2 := Aside0.mk (HB1.out.trans (hb.mono HB1.out.size))
    have HJ7 := Aside0.mk (blk_below HI7.out hb)
    have HJ11 := Aside0.mk (blk_below HI11.out hb)
    have HS5 : Aside0 (w.heap.size + 2 ≤ w5.heap.size) := ⟨by have := hb.size; rw [HS1.out] at this; exact this⟩
    have q7 : w5.cell? ⟨w.heap.size, 0, none⟩ = some (.int .i64 a3) := (blk_cell HJ7.out 0).trans rfl
    clear hb HI7 HI11
    by_cases g1 : a3 < 1
    · rw [if_pos (.inl g1)] at h
      simp only [Option.some.injEq, Prod.mk.injEq] at h
      obtain ⟨rfl, rfl, rfl⟩ := h
      have e1 : decide (a3 < 1) = true := decide_eq_true g1
      go_wp2
      refine bodyPost_ret (results_tmp3 rfl _ _ _) rfl ?_
      exact ⟨_, rfl, Kd.R_nil _ _ _ _ _, HB2.out⟩
    · have e1 : decide (a3 < 1) = false := decide_eq_false g1
      by_cases g2 : a3 > (l0.length : Int)
      · rw [if_pos (.inr g2)] at h
        simp only [Option.some.injEq, Prod.mk.injEq] at h
        obtain ⟨rfl, rfl, rfl⟩ := h
        have e2 : decide (a3 > (l0.length : Int)) = true := decide_eq_true g2
        have e3 : decide ((l0.length : Int) < a3) = true := decide_eq_true g2
        go_wp2
        refine bodyPost_ret (results_tmp3 rfl _ _ _) rfl ?_
        exact ⟨_, rfl, Kd.R_nil _ _ _ _ _, HB2.out⟩
      · have e2 : decide (a3 > (l0.length : Int)) = false := decide_eq_false g2
        have e3 : decide ((l0.length : Int) < a3) = false := decide_eq_false g2
        rw [if_neg (fun h => h.elim g1 g2)] at h
        by_cases hlen : l0.length ≤ 1000
        case neg => rw [if_neg hlen] at h; cases h
        rw [if_pos hlen] at h
        obtain ⟨kk, rfl⟩ : ∃ kk : Nat, a3 = (kk : Int) := ⟨a3.toNat, by omega⟩
        rw [Int.toNat_natCast] at h
        obtain ⟨r, hr, h⟩ := Option.bind_eq_some_iff.1 h
        have HROW := Aside0.mk (table_row_getD k l0 a1 a2 kk r hr)
        have HRK := Aside0.mk hr
        have HH := Aside0.mk h
        have q0 : w5.cell? ⟨w.heap.size + 1, 0, none⟩ = some (.slice A0 l0.length c0) := (blk_cell HJ11.out 0).trans rfl
        have q1 : w5.cell? ⟨w.heap.size + 1, 1, none⟩ = some (.int .i64 a1) := (blk_cell HJ11.out 1).trans rfl
        have q2 : w5.cell? ⟨w.heap.size + 1, 2, none⟩ = some (.int .i64 a2) := (blk_cell HJ11.out 2).trans rfl
        have hkl : kk ≤ l0.length := by omega
        clear h hr
        go_wp2_with (go_at_fn 32)
        refine (table_calls k A0 c0 l0 a1 a2 kk (fun c => (breaker_table.row k l0 a1 a2 c).getD []) _ ?s1 ?s2 hlen hkl ?s3).mono ?_
        case s1 => exact Kd.C_below HR.out HB2.out
        case s2 => exact HC.out
        case s3 => exact HROW.out
        rintro e w6 ⟨gr, cs, gs, rfl, hgr, hcs, hgs, hb⟩
        have HB3 := Aside0.mk (HB2.out.trans (hb.mono HB2.out.size))
        have z7 := blk_alloc (blk_below HJ7.out hb) (.cells #[.slice (some ⟨gr, 0, none⟩) (kk + 1) (kk + 1)] 62)
        have z11 := blk_alloc (blk_below HJ11.out hb) (.cells #[.slice (some ⟨gr, 0, none⟩) (kk + 1) (kk + 1)] 62)
        have zr := blk_alloc hgr (.cells #[.slice (some ⟨gr, 0, none⟩) (kk + 1) (kk + 1)] 62)
        have zg : Aside0 (∀ c, c ≤ kk → (w6.alloc (.cells #[.slice (some ⟨gr, 0, none⟩) (kk + 1) (kk + 1)] 62)).heap[gs c]? = some (.cells (mkEnds ((breaker_table.row k l0 a1 a2 c).getD [])) 52 (0, 0))) := ⟨fun c hc => blk_alloc (hgs c hc) _⟩
        have HCS := Aside0.mk hcs
        have z12 := blk_new w6 (.cells #[.slice (some ⟨gr, 0, none⟩) (kk + 1) (kk + 1)] 62)
        have HS6 : Aside0 (w.heap.size + 2 ≤ w6.heap.size) := ⟨Nat.le_trans HS5.out hb.size⟩
        have zB := HB3.out.alloc HB3.out.size (.cells #[.slice (some ⟨gr, 0, none⟩) (kk + 1) (kk + 1)] 62)
        have zS := World.size_alloc w6 (.cells #[.slice (some ⟨gr, 0, none⟩) (kk + 1) (kk + 1)] 62)
        clear hb hgr hcs hgs q7 q0 q1 q2 HJ7 HJ11 e1 e2 e3
        have hrk : (breaker_table.row k l0 a1 a2 kk).getD [] = r := by rw [HRK.out]; rfl
        have hrl := table_row_len k l0 a1 a2 kk r HRK.out
        have m0 := mkEnds_get r 0 (by omega)
        have zk := zg.out kk (Nat.le_refl _)
        rw [hrk] at zk
        have q12 : (w6.alloc (.cells #[.slice (some ⟨gr, 0, none⟩) (kk + 1) (kk + 1)] 62)).cell? ⟨w6.heap.size, 0, none⟩ = some (.slice (some ⟨gr, 0, none⟩) (kk + 1) (kk + 1)) := (blk_cell z12 0).trans rfl
        have q7 : (w6.alloc (.cells #[.slice (some ⟨gr, 0, none⟩) (kk + 1) (kk + 1)] 62)).cell? ⟨w.heap.size, 0, none⟩ = some (.int .i64 (kk : Int)) := (blk_cell z7 0).trans rfl
        have qr : (w6.alloc (.cells #[.slice (some ⟨gr, 0, none⟩) (kk + 1) (kk + 1)] 62)).cell? ⟨gr, kk, none⟩ = some (.slice (some ⟨gs kk, 0, none⟩) (l0.length + 1) (l0.length + 1)) := (blk_cell zr kk).trans (HCS.out kk (Nat.le_refl _))
        have qf : (w6.alloc (.cells #[.slice (some ⟨gr, 0, none⟩) (kk + 1) (kk + 1)] 62)).cell? ⟨gs kk, 2, none⟩ = some (.bool (re r 0).2.2) := (blk_cell zk 2).trans m0.2.2
        have qt : (w6.alloc (.cells #[.slice (some ⟨gr, 0, none⟩) (kk + 1) (kk + 1)] 62)).cell? ⟨gs kk, 0, none⟩ = some (.int .i64 (re r 0).1) := (blk_cell zk 0).trans m0.1
        have ek : (kk : Int) < (kk : Int) + 1 := by omega
        have el : (0 : Int) < (l0.length : Int) + 1 := by omega
        obtain ⟨fd, hfd⟩ : ∃ fd, (re r 0).2.2 = fd := ⟨_, rfl⟩
        rw [hfd] at qf
        have HH2 := HH.out
        rw [hfd] at HH2
        clear m0 HH hfd
        cases fd with
        | false =>
          rw [if_neg (by decide)] at HH2
          simp only [Option.some.injEq, Prod.mk.injEq] at HH2
          obtain ⟨rfl, rfl, rfl⟩ := HH2
          go_wp2
          refine bodyPost_ret (results_tmp3 rfl _ _ _) rfl ?_
          exact ⟨_, rfl, Kd.R_nil _ _ _ _ _, zB⟩
        | true =>
          rw [if_pos rfl] at HH2
          obtain ⟨st, hst, HH2⟩ := Option.bind_eq_some_iff.1 HH2
          simp only [Option.some.injEq, Prod.mk.injEq] at HH2
          obtain ⟨rfl, rfl, rfl⟩ := HH2
          have HFOL := Aside0.mk hst
          have HRL : Aside0 (∀ c, c ≤ kk → ((breaker_table.row k l0 a1 a2 c).getD []).length = l0.length + 1) := ⟨fun c hc => table_row_len k l0 a1 a2 c _ (HROW.out c hc)⟩
          clear hst
          have HLB : Aside0 (w.heap.size + 2 ≤ w6.heap.size) := HS6
          clear zk hrk HS6 HS5
          go_wp2
          clear qf
          generalize w6.heap.size = b12 at z12 q12 zS HLB ⊢
          replace z7 := blk_drew z7
          replace z11 := blk_drew z11
          replace zr := blk_drew zr
          replace zg : Aside0 (∀ c, c ≤ kk → (w6.alloc (.cells #[.slice (some ⟨gr, 0, none⟩) (kk + 1) (kk + 1)] 62)).drew.heap[gs c]? = some (.cells (mkEnds ((breaker_table.row k l0 a1 a2 c).getD [])) 52 (0, 0))) := ⟨fun c hc => blk_drew (zg.out c hc)⟩
          replace z12 := blk_drew z12
          replace zB := below_drew1 zB
          replace q12 : (w6.alloc (.cells #[.slice (some ⟨gr, 0, none⟩) (kk + 1) (kk + 1)] 62)).drew.cell? ⟨b12, 0, none⟩ = some (.slice (some ⟨gr, 0, none⟩) (kk + 1) (kk + 1)) := q12
          replace q7 : (w6.alloc (.cells #[.slice (some ⟨gr, 0, none⟩) (kk + 1) (kk + 1)] 62)).drew.cell? ⟨w.heap.size, 0, none⟩ = some (.int .i64 (kk : Int)) := q7
          replace qr : (w6.alloc (.cells #[.slice (some ⟨gr, 0, none⟩) (kk + 1) (kk + 1)] 62)).drew.cell? ⟨gr, kk, none⟩ = some (.slice (some ⟨gs kk, 0, none⟩) (l0.length + 1) (l0.length + 1)) := qr
          replace qt : (w6.alloc (.cells #[.slice (some ⟨gr, 0, none⟩) (kk + 1) (kk + 1)] 62)).drew.cell? ⟨gs kk, 0, none⟩ = some (.int .i64 (re r 0).1) := qt
          refine (wpIn_wide (n := 0)).1 (wpIn_nopanic (wpIn_wide.2 ?_))
          refine start_ (n := 13) (S := fun w' => w'.cell? ⟨w.heap.size + 1, 0, none⟩ = some (.slice A0 l0.length c0) ∧ w'.cell? ⟨w.heap.size + 1, 1, none⟩ = some (.int .i64 a1) ∧ w'.cell? ⟨w.heap.size + 1, 2, none⟩ = some (.int .i64 a2) ∧ w'.cell? ⟨b12, 0, none⟩ = some (.slice (some ⟨gr, 0, none⟩) (kk + 1) (kk + 1)) ∧ w'.cell? ⟨w.heap.size, 0, none⟩ = some (.int .i64 (kk : Int)) ∧ w'.cell? ⟨gr, kk, none⟩ = some (.slice (some ⟨gs kk, 0, none⟩) (l0.length + 1) (l0.length + 1)) ∧ w'.cell? ⟨gs kk, 0, none⟩ = some (.int .i64 (re r 0).1) ∧ w'.heap[b12]? = some (.cells #[.slice (some ⟨gr, 0, none⟩) (kk + 1) (kk + 1)] 62 (0, 0)) ∧ w'.heap[w.heap.size]? = some (.cells #[.int .i64 (kk : Int)] 3 (0, 0)) ∧ w'.heap[gr]? = some (.cells cs 47 (0, 0)) ∧ (∀ c, c ≤ kk → w'.heap[gs c]? = some (.cells (mkEnds ((breaker_table.row k l0 a1 a2 c).getD [])) 52 (0, 0))) ∧ Below w.heap.size w w') (ds := []) #[false, false, false, false, false, false, false, false, false, false, false, false, false] (by kernel_rfl) rfl rfl ⟨(blk_cell z11 0).trans rfl, (blk_cell z11 1).trans rfl, (blk_cell z11 2).trans rfl, q12, q7, qr, qt, z12, z7, zr, zg.out, zB⟩ (fun hHeld => ?_)
          refine pure_ (i := 1) (N := some 40) (v := ?_) (a' := ?_) #[false, true, false, false, false, false, false, false, false, false, false, false, false] rfl rfl (by kernel_rfl) (fun _ _ _ h => h) (Or.inl ⟨by rfl, ?_⟩) ?_ ?_
          rotate_left
          · intro w'
            go_simp
            with_reducible rfl
          rotate_left
          · simp only [Act.put, List.setIfInBounds_toArray, List.set_cons_zero, List.set_cons_succ, i64_w, i32_w]
            rfl
          refine take_ (i := 0) (N := some 39) (v := ?_) (a' := ?_) #[true, true, false, false, false, false, false, false, false, false, false, false, false] rfl rfl (by kernel_rfl) (fun _ _ _ h => h) (Or.inl ⟨by rfl, ?_⟩) hHeld ?_ ?_
          rotate_left
          · rintro w' ⟨s0, s1, s2, s3, s4, s5, s6, s7, s8, s9, s10, s11⟩
            go_simp
            with_reducible rfl
          rotate_left
          · simp only [Act.put, List.setIfInBounds_toArray, List.set_cons_zero, List.set_cons_succ, i64_w, i32_w]
            rfl
          refine take_ (i := 3) (N := some 42) (v := ?_) (a' := ?_) #[true, true, false, true, false, false, false, false, false, false, false, false, false] rfl rfl (by kernel_rfl) (fun _ _ _ h => h) (Or.inl ⟨by rfl, ?_⟩) hHeld ?_ ?_
          rotate_left
          · rintro w' ⟨s0, s1, s2, s3, s4, s5, s6, s7, s8, s9, s10, s11⟩
            go_simp
            with_reducible rfl
          rotate_left
          · simp only [Act.put, List.setIfInBounds_toArray, List.set_cons_zero, List.set_cons_succ, i64_w, i32_w]
            rfl
          refine take_ (i := 4) (N := some 43) (v := ?_) (a' := ?_) #[true, true, false, true, true, false, false, false, false, false, false, false, false] rfl rfl (by kernel_rfl) (fun _ _ _ h => h) (Or.inl ⟨by rfl, ?_⟩) hHeld ?_ ?_
          rotate_left
          · rintro w' ⟨s0, s1, s2, s3, s4, s5, s6, s7, s8, s9, s10, s11⟩
            go_simp
            with_reducible rfl
          rotate_left
          · simp only [Act.put, List.setIfInBounds_toArray, List.set_cons_zero, List.set_cons_succ, i64_w, i32_w]
            rfl
          refine pure_ (i := 5) (N := some 44) (v := ?_) (a' := ?_) #[true, true, false, true, true, true, false, false, false, false, false, false, false] rfl rfl (by kernel_rfl) (fun _ _ _ h => h) (Or.inl ⟨by rfl, ?_⟩) ?_ ?_
          rotate_left
          · intro w'
            go_simp
            with_reducible rfl
          rotate_left
          · simp only [Act.put, List.setIfInBounds_toArray, List.set_cons_zero, List.set_cons_succ, i64_w, i32_w]
            rfl
          refine take_ (i := 6) (N := some 45) (v := ?_) (a' := ?_) #[true, true, false, true, true, true, true, false, false, false, false, false, false] rfl rfl (by kernel_rfl) (fun _ _ _ h => h) (Or.inl ⟨by rfl, ?_⟩) hHeld ?_ ?_
          rotate_left
          · rintro w' ⟨s0, s1, s2, s3, s4, s5, s6, s7, s8, s9, s10, s11⟩
            go_simp
            with_reducible rfl
          rotate_left
          · simp only [Act.put, List.setIfInBounds_toArray, List.set_cons_zero, List.set_cons_succ, i64_w, i32_w]
            rfl
          refine pure_ (i := 7) (N := some 46) (v := ?_) (a' := ?_) #[true, true, false, true, true, true, true, true, false, false, false, false, false] rfl rfl (by kernel_rfl) (fun _ _ _ h => h) (Or.inl ⟨by rfl, ?_⟩) ?_ ?_
          rotate_left
          · intro w'
            go_simp
            with_reducible rfl
          rotate_left
          · simp only [Act.put, List.setIfInBounds_toArray, List.set_cons_zero, List.set_cons_succ, i64_w, i32_w]
            rfl
          refine pure_ (i := 8) (N := some 47) (v := ?_) (a' := ?_) #[true, true, false, true, true, true, true, true, true, false, false, false, false] rfl rfl (by kernel_rfl) (fun _ _ _ h => h) (Or.inl ⟨by rfl, ?_⟩) ?_ ?_
          rotate_left
          · intro w'
            go_simp
            with_reducible rfl
          rotate_left
          · simp only [Act.put, List.setIfInBounds_toArray, List.set_cons_zero, List.set_cons_succ, i64_w, i32_w]
            rfl
          refine take_ (i := 9) (N := some 48) (v := ?_) (a' := ?_) #[true, true, false, true, true, true, true, true, true, true, false, false, false] rfl rfl (by kernel_rfl) (fun _ _ _ h => h) (Or.inl ⟨by rfl, ?_⟩) hHeld ?_ ?_
          rotate_left
          · rintro w' ⟨s0, s1, s2, s3, s4, s5, s6, s7, s8, s9, s10, s11⟩
            go_simp
            with_reducible rfl
          rotate_left
          · simp only [Act.put, List.setIfInBounds_toArray, List.set_cons_zero, List.set_cons_succ, i64_w, i32_w]
            rfl
          refine one_ (i := 2) (N := some 41) #[true, true, true, true, true, true, true, true, true, true, false, false, false] rfl rfl (by kernel_rfl) (by decide) (fun K hK => ?_)
          refine goes_ Try.func26 (by kernel_rfl) rfl #[.agg #[.slice A0 l0.length c0, .int .i64 a1, .int .i64 a2], .func (.func 33) #[] #[.pointer (some ⟨b12, 0, none⟩), .pointer (some ⟨w.heap.size, 0, none⟩)]] (by rfl) rfl rfl (by simp only [List.map_toArray, List.map_cons, List.map_nil]; rfl) ?_
          with_reducible refine (follow_lines k kk (by omega) A0 c0 l0 a1 a2 b12 w.heap.size gr cs (fun c => (breaker_table.row k l0 a1 a2 c).getD []) gs HRL.out st _ hHeld.2.2.2.2.2.2.2.1 hHeld.2.2.2.2.2.2.2.2.1 hHeld.2.2.2.2.2.2.2.2.2.1 HCS.out hHeld.2.2.2.2.2.2.2.2.2.2.1 HFOL.out).mono ?_
          rintro e w3 ⟨v0_, rfl, hRv, hbv⟩
          refine ⟨_, rfl, ?_⟩
          obtain ⟨s0, s1, s2, s3, s4, s5, s6, s7, s8, s9, s10, s11⟩ := hHeld
          have hRw := Aside0.mk hRv
          have hbw := Aside0.mk hbv
          clear hRv hbv
          refine hK.out _ _ ⟨(cell_blk s0 (hbw.out.block _ (show w.heap.size + 1 < _ from by have := blk_lt s7; have := HLB.out; omega))), (cell_blk s1 (hbw.out.block _ (show w.heap.size + 1 < _ from by have := blk_lt s7; have := HLB.out; omega))), (cell_blk s2 (hbw.out.block _ (show w.heap.size + 1 < _ from by have := blk_lt s7; have := HLB.out; omega))), (cell_blk s3 (hbw.out.block _ (blk_lt s7))), (cell_blk s4 (hbw.out.block _ (blk_lt s8))), (cell_blk s5 (hbw.out.block _ (blk_lt s9))), (cell_blk s6 (hbw.out.block _ (blk_lt (s10 kk (Nat.le_refl _))))), (blk_below s7 hbw.out), (blk_below s8 hbw.out), (blk_below s9 hbw.out), (fun c hc => blk_below (s10 c hc) hbw.out), (s11.trans (hbw.out.mono s11.size))⟩ (fun hHeld => ?_)
          clear hK K
          refine norm_ (a' := ?_) ?_ ?_
          rotate_left
          · show Act.put _ (some 41) _ = _
            simp only [Act.put, List.setIfInBounds_toArray, List.set_cons_zero, List.set_cons_succ, i64_w, i32_w]
            rfl
          refine pure_ (i := 10) (N := some 8) (v := ?_) (a' := ?_) #[true, true, true, true, true, true, true, true, true, true, true, false, false] rfl rfl (by kernel_rfl) (fun _ _ _ h => h) (Or.inl ⟨by rfl, ?_⟩) ?_ ?_
          rotate_left
          · intro w'
            go_simp
            with_reducible rfl
          rotate_left
          · simp only [Act.put, List.setIfInBounds_toArray, List.set_cons_zero, List.set_cons_succ, i64_w, i32_w]
            rfl
          refine pure_ (i := 11) (N := some 9) (v := ?_) (a' := ?_) #[true, true, true, true, true, true, true, true, true, true, true, true, false] rfl rfl (by kernel_rfl) (fun _ _ _ h => h) (Or.inl ⟨by rfl, ?_⟩) ?_ ?_
          rotate_left
          · intro w'
            go_simp
            with_reducible rfl
          rotate_left
          · simp only [Act.put, List.setIfInBounds_toArray, List.set_cons_zero, List.set_cons_succ, i64_w, i32_w]
            rfl
          refine pure_ (i := 12) (N := some 10) (v := ?_) (a' := ?_) #[true, true, true, true, true, true, true, true, true, true, true, true, true] rfl rfl (by kernel_rfl) (fun _ _ _ h => h) (Or.inl ⟨by rfl, ?_⟩) ?_ ?_
          rotate_left
          · intro w'
            go_simp
            with_reducible rfl
          rotate_left
          · simp only [Act.put, List.setIfInBounds_toArray, List.set_cons_zero, List.set_cons_succ, i64_w, i32_w]
            rfl
          refine done_ (by kernel_rfl) ?_
          show Exit.then _ _ Exit.normal _ _
          go_wp2
          refine bodyPost_ret (results_tmp3 rfl _ _ _) rfl ?_
          exact ⟨_, rfl, Kd.R_lower hRw.out s11.size, hHeld.2.2.2.2.2.2.2.2.2.2.2⟩
theorem table_i_mono (k : Nat) (xs : List S34) (wd ind : Int) (prev : List EndV) : ∀ m i s, LeO (breaker_table.i k xs wd ind prev m i s) (breaker_table.i (k + 1) xs wd ind prev m i s)
  | 0, _, _ => LeO.refl _
  | m + 1, i, s => by
    simp only [breaker_table.i]
    exact LeO.bind (lines_l_mono _ _ _ _ _) (fun _ => table_i_mono k xs wd ind prev m _ _)
theorem table_row_mono (k : Nat) (xs : List S34) (wd ind : Int) : ∀ c, LeO (breaker_table.row k xs wd ind c) (breaker_table.row (k + 1) xs wd ind c)
  | 0 => LeO.refl _
  | c + 1 => by
    simp only [breaker_table.row]
    exact LeO.bind (table_row_mono k xs wd ind c) (fun _ => table_i_mono _ _ _ _ _ _ _ _)
theorem follow_lines_congr (N kk : Nat) {nx nx' : Nat → Int → Int} (h : ∀ c i, c ≤ kk → nx c i = nx' c i) : ∀ k acc i ln, breaker_follow_lines.l N kk nx k acc i ln = breaker_follow_lines.l N kk nx' k acc i ln
  | 0, _, _, _ => rfl
  | k + 1, acc, i, ln => by
    simp only [breaker_follow_lines.l]
    rw [h _ _ (Nat.sub_le kk ln), follow_lines_congr N kk h k]
theorem table_getD_mono (k : Nat) (xs : List S34) (wd ind : Int) (c : Nat) (r : List EndV) (h : breaker_table.row k xs wd ind c = some r) (j : Nat) (hj : j ≤ c) : (breaker_table.row (k + 1) xs wd ind j).getD [] = (breaker_table.row k xs wd ind j).getD [] := by
  obtain ⟨r', h'⟩ := table_row_down k xs wd ind c r h j hj
  rw [table_row_mono k xs wd ind j r' h', h']
theorem breaker_Lines.mono : ∀ a0 a1 a2 a3 k, LeO (breaker_Lines.f k a0 a1 a2 a3) (breaker_Lines.f (k + 1) a0 a1 a2 a3) := by
  intro a0 a1 a2 a3 k
  unfold breaker_Lines.f
  refine LeO.bind (breaker_problem_valid.mono _ _ _ _) (fun _ => ?_)
  refine LeO.ite ?_ (LeO.refl _)
  refine LeO.ite (LeO.refl _) ?_
  refine LeO.ite ?_ (LeO.refl _)
  intro r hr
  obtain ⟨q, hq, h⟩ := Option.bind_eq_some_iff.1 hr
  rw [table_row_mono _ _ _ _ _ q hq, Option.bind_some]
  split at h
  · rename_i hf
    rw [if_pos hf]
    obtain ⟨st, hst, h2⟩ := Option.bind_eq_some_iff.1 h
    rw [follow_lines_congr a0.length a3.toNat (nx' := fun c i => (re ((breaker_table.row k a0 a1 a2 c).getD []) i).2.1) (fun c i hc => by rw [table_getD_mono k a0 a1 a2 _ q hq c hc]), follow_lines_mono _ _ _ _ _ _ _ st hst, Option.bind_some]
    exact h2
  · rename_i hf
    rw [if_neg hf]
    exact h

end Go.Proofs.Ytgickognjlapmaa.PR
