-- Written by a program of this place (wip/gen.py) with the kit's print; not trusted: Lean checks it.
import Derived.Test.YtgickognjlapmaaPRx0
import Derived.Test.YtgickognjlapmaaPRx1
import Derived.Test.YtgickognjlapmaaPRx2
namespace Go.Proofs.Ytgickognjlapmaa.PR
open Go.RowKit Go.Proofs.YtgickognjlapmaaW.PrintWords Go.Proofs.YtgickognjlapmaaW.PrintLast Go.Proofs.YtgickognjlapmaaW.PrintMore
attribute [local go_sem] max2_int min2_int max_two min_two max_three min_three max_four min_four   -- for this text's walks alone
set_option linter.unusedVariables false
set_option linter.unusedSimpArgs false

/-! ### breaker_Best: function 12, by hand -/
/-- A number, brought into a row's range. -/
def clp (N : Nat) (j : Int) : Int := if 0 ≤ j ∧ j ≤ (N : Int) then j else 0
theorem clp_in {N : Nat} {j : Int} (h0 : 0 ≤ j) (h1 : j ≤ (N : Int)) : clp N j = j := if_pos ⟨h0, h1⟩
theorem clp_range (N : Nat) (j : Int) : 0 ≤ clp N j ∧ clp N j ≤ (N : Int) := by unfold clp; split <;> omega
theorem grown_of_below {A B : World} (h : Below A.heap.size A B) : A.grownBy B none := ⟨h.os, h.tape, h.output, h.size, fun k hk _ => h.block k hk⟩
theorem cell_blk {W W' : World} {a : Addr} {v : Value} (h : W.cell? a = some v) (e : W'.heap[a.block]? = W.heap[a.block]?) : W'.cell? a = some v := (World.cell?_of_block e).trans h
section
open Go.Shelf
attribute [local go_sem] Oper.semAt_some
/-! ### the marks that ranges over a function leave -/
def mks (Ds : List Nat) : List Deferred := Ds.map fun D => { target := .collected D, args := #[] }
/-- The marks' blocks are open. -/
def Opn (w : World) (Ds : List Nat) : Prop := Ds.Nodup ∧ ∀ D ∈ Ds, w.heap[D]? = some (.deferred (some []))
/-- What shutting the marks' blocks keeps. -/
def Shutd (w W : World) (Ds : List Nat) : Prop := W.os = w.os ∧ W.tape = w.tape ∧ W.output = w.output ∧ W.heap.size = w.heap.size ∧ ∀ k, k ∉ Ds → W.heap[k]? = w.heap[k]?
theorem leaves_mks {F : Fence} {n : Nat} {P : Program} {fn : Func} {tmps : Array Value} {R : Ending → World → Prop} : ∀ (Ds : List Nat) (w : World), Opn w Ds → (∀ W, Shutd w W Ds → ∃ v, (results fn tmps).run P W = .ok v W ∧ R (.returned v) W) → LeavesInM F n P fn tmps R (mks Ds) .returning w
  | [], w, _, h => by
    obtain ⟨v, h1, h2⟩ := h w ⟨rfl, rfl, rfl, rfl, fun _ _ => rfl⟩
    exact ⟨v, h1, h2⟩
  | D :: Ds, w, ⟨hn, ho⟩, h => by
    have hD := (List.nodup_cons.1 hn).1
    refine ⟨by simp, .inl ⟨D, _, rfl, run_takeDeferred (ho D List.mem_cons_self), leaves_mks Ds _ ⟨(List.nodup_cons.1 hn).2, fun D' hD' => ?_⟩ (fun W hW => h W ?_)⟩⟩
    · rw [World.putObj_heap_other (fun e => hD (by rw [← e]; exact hD'))]
      exact ho D' (List.mem_cons_of_mem _ hD')
    · obtain ⟨h1, h2, h3, h4, h5⟩ := hW
      exact ⟨h1, h2, h3, by rw [h4, World.putObj_size], fun k hk => by
        rw [h5 k (fun e => hk (List.mem_cons_of_mem _ e)), World.putObj_heap_other (fun e => hk (by rw [e]; exact List.mem_cons_self))]⟩
theorem Shutd.below {w W : World} {Ds : List Nat} {B : Nat} (h : Shutd w W Ds) (hD : ∀ D ∈ Ds, B ≤ D) : Below B w W :=
  ⟨h.1, h.2.1, h.2.2.1, Nat.le_of_eq h.2.2.2.1.symm, fun k hk => h.2.2.2.2 k (fun e => by have := hD k e; omega)⟩
/-- A block of cells is no mark's. -/
theorem Opn.cells {w : World} {Ds : List Nat} (h : Opn w Ds) {g : Nat} {cs : Array Value} {t : TypeId} {f : Nat × Nat} (hg : w.heap[g]? = some (.cells cs t f)) : g ∉ Ds := fun e => by
  have := h.2 g e
  rw [hg] at this
  cases this
theorem Shutd.blk {w W : World} {Ds : List Nat} (h : Shutd w W Ds) (ho : Opn w Ds) {g : Nat} {cs : Array Value} {t : TypeId} {f : Nat × Nat} (hg : w.heap[g]? = some (.cells cs t f)) : W.heap[g]? = some (.cells cs t f) := (h.2.2.2.2 g (ho.cells hg)).trans hg
theorem Opn.nil (w : World) : Opn w [] := ⟨List.nodup_nil, fun _ h => by cases h⟩
theorem Opn.lt {w : World} {Ds : List Nat} (h : Opn w Ds) : ∀ D ∈ Ds, D < w.heap.size := fun D hD => (Array.getElem?_eq_some_iff.1 (h.2 D hD)).1
/-- A new mark. -/
theorem Opn.cons {w W : World} {Ds : List Nat} (h : Opn W Ds) {D : Nat} (hD : W.heap[D]? = some (.deferred (some []))) (hn : D ∉ Ds) : Opn W (D :: Ds) := ⟨List.nodup_cons.2 ⟨hn, h.1⟩, fun D' hD' => by
  rcases List.mem_cons.1 hD' with rfl | h'
  · exact hD
  · exact h.2 D' h'⟩
/-- What is no cells abides. -/
theorem Opn.kept {w W : World} {Ds : List Nat} (h : Opn w Ds) (hk : KeepsOthers w W) : Opn W Ds := ⟨h.1, fun D hD => hk.same D _ (h.2 D hD) rfl⟩
theorem Opn.grown {w W : World} {Ds : List Nat} (h : Opn w Ds) {row : Option Nat} (hg : w.grownBy W row) (hr : ∀ r, row = some r → r ∉ Ds) : Opn W Ds := ⟨h.1, fun D hD => (hg.block D (h.lt D hD) (fun e => hr D e.symm hD)).trans (h.2 D hD)⟩
theorem opn_ownFrom {β : Type} (B : Nat) (Ds : List Nat) (hB : ∀ D ∈ Ds, D < B) : OwnFrom B (fun (_ : β) W => Opn W Ds) := fun _ X Y row hs hg hr => hs.grown hg (fun r e hD => by have := (hr r e).1; have := hB r hD; omega)
theorem blk_own {β : Type} (B g : Nat) (cs : β → Array Value) (t : TypeId) : OwnFrom B (fun s W => W.heap[g]? = some (.cells (cs s) t (0, 0))) := fun s X Y row hs hg hr => (hg.block g (blk_lt hs) (fun e => by
  obtain ⟨_, o, ho, hc⟩ := hr g e.symm
  rw [hs] at ho
  cases ho
  cases hc)).trans hs
/-- A loop with what holds at its head, numbered. -/
theorem wpIn_loop_g {F : Fence} {n : Nat} {P : Program} {c : Code} {Q : Exit → Act → World → Prop} {a : Act} {w : World} (I : Nat → Act → World → Prop) (m : Nat) (h0 : I m a w)
    (hr : ∀ m a w, I m a w → c.wpIn F n P (Exit.then (fun a' w' => ∃ m', m' < m ∧ I m' a' w') Q) a w) : (Code.loop c).wpIn F n P Q a w := by
  refine wpIn_loop_rounds (m + 1) ?_
  have key : ∀ N m a w, m < N → I m a w → Code.roundsIn F n P c Q N a w := by
    intro N
    induction N with
    | zero => intro m a w hm; omega
    | succ N ih =>
      intro m a w hm hI
      rw [roundsIn_succ]
      refine wpIn_mono (hr m a w hI) (fun e a' w' h => ?_)
      cases e with
      | normal =>
        obtain ⟨m', h1, h2⟩ := h
        exact ih m' a' w' (by omega) h2
      | exit id => exact h
      | goto l => exact h
      | ret => exact h
      | panic ch => exact h
      | outgrown => exact h
  exact key (m + 1) m a w (Nat.lt_succ_self m) h0
end
/-- What a problem's box, the start's box and the width's box keep. -/
def K3 (base p : Nat) (W W' : World) : Prop := Below base W W' ∧ W'.heap[p]? = W.heap[p]? ∧ W'.heap[p + 1]? = W.heap[p + 1]? ∧ W'.heap[p + 2]? = W.heap[p + 2]?
theorem K3.refl (base p : Nat) (W : World) : K3 base p W W := ⟨Below.refl _ _, rfl, rfl, rfl⟩
theorem K3.trans {base p : Nat} {A B C : World} (h : K3 base p A B) (k : K3 base p B C) : K3 base p A C := ⟨h.1.trans k.1, k.2.1.trans h.2.1, k.2.2.1.trans h.2.2.1, k.2.2.2.trans h.2.2.2⟩
theorem K3.of_below {base p : Nat} {A B : World} (h : Below A.heap.size A B) (hb : base ≤ A.heap.size) (hp : p + 2 < A.heap.size) : K3 base p A B := ⟨h.mono hb, h.block _ (by omega), h.block _ (by omega), h.block _ hp⟩
theorem k3K_b {base p : Nat} {w : World} (hb : base ≤ w.heap.size) (hp : p + 2 < w.heap.size) (W : World) (l : Nat) (o o' : Obj) (hl : w.heap.size ≤ l) (h : W.heap[l]? = some o) (h1 : o.isCells = false) (h2 : o.isWalk = false) : K3 base p W (W.putObj l o') :=
  ⟨belowK_b hb W l o o' hl h h1 h2, World.putObj_heap_other (by omega), World.putObj_heap_other (by omega), World.putObj_heap_other (by omega)⟩
section
open Go.Shelf
attribute [local go_sem] Oper.semAt_some
/-- The end of the m-th line that lines tries. -/
def jAt (n i m : Nat) : Nat := if m = 0 then n else i + m
/-- What lines yields in m rounds: the ends of the legal lines, with their demerits. -/
def breaker_problem_lines.l (k : Nat) (xs : List S34) (v : Int) (i : Nat) : Nat → Option (List (Int × Int))
  | 0 => some []
  | m + 1 => (breaker_problem_lines.l k xs v i m).bind fun l => (demerit_Line.f k xs (i : Int) ((jAt xs.length i m : Nat) : Int) v).bind fun r => some (if r.2 = 0 then l ++ [(((jAt xs.length i m : Nat) : Int), r.1)] else l)
theorem lines_prefix {k : Nat} {xs : List S34} {v : Int} {i m : Nat} {ys : List (Int × Int)} (h : breaker_problem_lines.l k xs v i m = some ys) : ∀ j, j ≤ m → ∃ zs, breaker_problem_lines.l k xs v i j = some zs ∧ zs.length ≤ j := by
  induction m generalizing ys with
  | zero =>
    intro j hj
    obtain rfl : j = 0 := by omega
    exact ⟨[], rfl, Nat.le_refl _⟩
  | succ m ih =>
    simp only [breaker_problem_lines.l] at h
    obtain ⟨l, hl, h⟩ := Option.bind_eq_some_iff.1 h
    obtain ⟨r, hr, h⟩ := Option.bind_eq_some_iff.1 h
    intro j hj
    by_cases e : j = m + 1
    · subst e
      refine ⟨ys, by simp only [breaker_problem_lines.l]; rw [hl, Option.bind_some, hr, Option.bind_some]; exact h, ?_⟩
      obtain ⟨zs, g1, g2⟩ := ih hl m (Nat.le_refl _)
      rw [hl] at g1
      obtain rfl := Option.some.inj g1
      obtain rfl := Option.some.inj h
      split
      · rw [List.length_append, List.length_singleton]; omega
      · omega
    · exact ih hl j (by omega)
theorem lines_mem {k : Nat} {xs : List S34} {v : Int} {i m : Nat} {ys : List (Int × Int)} (h : breaker_problem_lines.l k xs v i m = some ys) (hm : i + m ≤ xs.length) : ∀ y ∈ ys, (i : Int) ≤ y.1 ∧ y.1 ≤ (xs.length : Int) := by
  induction m generalizing ys with
  | zero =>
    obtain rfl := Option.some.inj h
    intro y hy
    cases hy
  | succ m ih =>
    simp only [breaker_problem_lines.l] at h
    obtain ⟨l, hl, h⟩ := Option.bind_eq_some_iff.1 h
    obtain ⟨r, hr, h⟩ := Option.bind_eq_some_iff.1 h
    obtain rfl := Option.some.inj h
    have ih := ih hl (by omega)
    intro y hy
    split at hy
    · rcases List.mem_append.1 hy with hy | hy
      · exact ih y hy
      · obtain rfl := List.mem_singleton.1 hy
        dsimp only
        unfold jAt
        split <;> omega
    · exact ih y hy
set_option maxHeartbeats 1000000 in
theorem lines_in (n : Nat) (a : Option Addr) (len cap : Nat) (wd ind i : Int) (w : World) (v : Int) (hv : (if i > 0 then wrap64 (wd - ind) else wd) = v) :
    CallsIn Fence.wide n Try.prog 25 #[.agg #[.slice a len cap, .int .i64 wd, .int .i64 ind], .int .i64 i] w fun e w' => e = .returned (.func (.func 36) #[] #[.pointer (some ⟨w.heap.size, 0, none⟩), .pointer (some ⟨w.heap.size + 1, 0, none⟩), .pointer (some ⟨w.heap.size + 1 + 1, 0, none⟩)]) ∧
      w' = ((w.alloc (.cells #[.slice a len cap, .int .i64 wd, .int .i64 ind] 46)).alloc (.cells #[.int .i64 i] 3)).alloc (.cells #[.int .i64 v] 3) := by
  refine callsIn_of_wp Try.func25 rfl trivial ?_ rfl
  simp only [Try.ntmps25, List.size_toArray, List.length_cons, List.length_nil, Nat.reduceAdd, Nat.reduceSub, Array.replicate_succ, Array.replicate_zero, List.push_toArray, List.append_toArray, List.nil_append, List.cons_append]
  by_cases hi : i > 0
  · rw [if_pos hi] at hv
    subst hv
    have e1 : decide (0 < i) = true := decide_eq_true hi
    have e2 : (0 < i) = True := eq_true hi
    gi_wp2
    go_ret
    exact ⟨rfl, rfl⟩
  · rw [if_neg hi] at hv
    subst hv
    have e1 : decide (0 < i) = false := decide_eq_false hi
    have e2 : (0 < i) = False := eq_false hi
    gi_wp2
    go_ret
    exact ⟨rfl, rfl⟩

set_option maxRecDepth 100000 in
set_option maxHeartbeats 4000000 in
theorem lines1_in (n : Nat) (hn : 1 ≤ n) (l p base : Nat) (w0 : World) (hbase : w0.heap.size = base) (hp : base ≤ p) (A : Option Addr) (c : Nat) (xs : List S34) (wd ind v : Int) (i : Nat) (hi : i < xs.length) (hc : xs.length ≤ c) (hlen : xs.length ≤ 1000)
    (K : Nat) (ys : List (Int × Int)) (hys : breaker_problem_lines.l K xs v i (xs.length - i) = some ys) (hr : Kd.C k34 w0 A xs.length xs)
    (J Jx : List (Int × Int) → World → Prop)
    (W : World) (hB : Below base w0 W) (hpW : p + 2 < W.heap.size) (hJ : AbidesFrom W.heap.size J)
    (hY : ∀ pre x W, J pre W → pre.length < xs.length - i → YieldAt Fence.wide (n - 1) Try.prog l #[.int .i64 (clp xs.length x.1), .int .i64 x.2] W fun e W' =>
      (e = .returned (.bool true) ∧ J (pre ++ [x]) W' ∧ K3 base p W W') ∨ (e = .returned (.bool false) ∧ Jx (pre ++ [x]) W'))
    (hp0 : W.cell? ⟨p, 0, none⟩ = some (.slice A xs.length c)) (hi0 : W.cell? ⟨p + 1, 0, none⟩ = some (.int .i64 i)) (hv0 : W.cell? ⟨p + 2, 0, none⟩ = some (.int .i64 v))
    (h0 : J [] W) :
    CallsIn Fence.wide n Try.prog 36 #[.func (.yield l) #[] #[], .pointer (some ⟨p, 0, none⟩), .pointer (some ⟨p + 1, 0, none⟩), .pointer (some ⟨p + 2, 0, none⟩)] W fun e W' => (∃ v, e = .returned v) ∧
      ((∃ zs, zs = ys ∧ J zs W') ∨ (∃ pre, (∃ k, k ≤ xs.length - i ∧ breaker_problem_lines.l K xs v i k = some pre) ∧ Jx pre W')) := by
  refine callsIn_of_wp Try.func36 rfl trivial ?_ rfl
  simp only [Try.ntmps36, List.size_toArray, List.length_cons, List.length_nil, Nat.reduceAdd, Nat.reduceSub, Array.replicate_succ, Array.replicate_zero, List.push_toArray, List.append_toArray, List.nil_append, List.cons_append]
  have HYS := Aside0.mk hys
  have HYY := Aside0.mk hY
  have HJJ := Aside0.mk hJ
  have HBS := Aside0.mk hbase
  have HR := Aside0.mk hr
  have HB := Aside0.mk hB
  have HPW := Aside0.mk hpW
  have HP := Aside0.mk hp
  have HC := Aside0.mk hc
  have HLEN := Aside0.mk hlen
  clear hys hY hJ hbase hr hB hpW hp hc
  have nw : wrap64 ((xs.length : Int) - i) = ((xs.length - i : Nat) : Int) := by have := HLEN.out; unfold wrap64; omega
  gi_wp2
  gi_loopw [16] (fun s wr => ∃ (k : Nat) (pre : List (Int × Int)), k ≤ xs.length - i ∧ s = .int .i64 (k : Int) ∧ Aside0 (breaker_problem_lines.l K xs v i k = some pre) ∧ Aside0 (J pre wr) ∧ Aside0 (K3 base p W wr))
    (fun v _ => xs.length + 1 - (intOf v).toNat)
  case atStart => exact ⟨0, [], Nat.zero_le _, by go_num, ⟨rfl⟩, ⟨h0⟩, ⟨K3.refl _ _ _⟩⟩
  case round =>
    obtain ⟨k, pre, hk, rfl, HPRE, HJS, HK⟩ := hrel
    have q0 := cell_blk hp0 HK.out.2.1
    have qi := cell_blk hi0 HK.out.2.2.1
    have qv := cell_blk hv0 HK.out.2.2.2
    clear hp0 hi0 hv0 h0
    by_cases hlt : k < xs.length - i
    · have e1 : ((k : Int) < ((xs.length - i : Nat) : Int)) = True := eq_true (by omega)
      have e1' : decide ((k : Int) < ((xs.length - i : Nat) : Int)) = true := decide_eq_true (by omega)
      have e1o : ((k : Int) < (xs.length : Int) - (i : Int)) = True := eq_true (by omega)
      have e1o' : decide ((k : Int) < (xs.length : Int) - (i : Int)) = true := decide_eq_true (by omega)
      obtain ⟨zs, g1, g1l⟩ := lines_prefix HYS.out (k + 1) (by omega)
      simp only [breaker_problem_lines.l] at g1
      rw [HPRE.out, Option.bind_some] at g1
      obtain ⟨⟨d, ok⟩, g2, g1⟩ := Option.bind_eq_some_iff.1 g1
      have HD := Aside0.mk g2
      have HPL : Aside0 (pre.length ≤ k) := ⟨by
        obtain ⟨zs', a1, a2⟩ := lines_prefix HYS.out k (by omega)
        rw [HPRE.out] at a1
        obtain rfl := Option.some.inj a1
        exact a2⟩
      clear g1 g2 g1l
      have HZ : Aside0 (breaker_problem_lines.l K xs v i (k + 1) = some (if ok = 0 then pre ++ [(((jAt xs.length i k : Nat) : Int), d)] else pre)) := ⟨by simp only [breaker_problem_lines.l]; rw [HPRE.out, Option.bind_some, HD.out, Option.bind_some]⟩
      have arg1 : wrap64 ((k : Int) + 1) = ((k + 1 : Nat) : Int) := by have := HLEN.out; unfold wrap64; omega
      have arg2 : wrap64 ((i : Int) + k) = ((i + k : Nat) : Int) := by have := HLEN.out; unfold wrap64; omega
      obtain ⟨jj, hjj⟩ : ∃ jj : Nat, jAt xs.length i k = jj := ⟨_, rfl⟩
      have HJJA : Aside0 (jj ≤ xs.length) := ⟨by rw [← hjj]; unfold jAt; split <;> omega⟩
      have HJE := Aside0.mk hjj
      rw [hjj] at HD HZ
      clear hjj
      by_cases hok : ok = 0
      · subst hok
        have HZ' : Aside0 (breaker_problem_lines.l K xs v i (k + 1) = some (pre ++ [((jj : Int), d)])) := ⟨by have := HZ.out; rwa [if_pos rfl] at this⟩
        clear HZ
        by_cases hk0 : k = 0
        · have f1 : ((k : Int) = 0) = True := eq_true (by omega)
          have f2 : ((k : Int) == 0) = true := beq_iff_eq.2 (by omega)
          have f3 : decide ((k : Int) = 0) = true := decide_eq_true (by omega)
          have hj : jj = xs.length := by have := HJE.out; unfold jAt at this; rw [if_pos hk0] at this; exact this.symm
          subst hj
          clear hk0
          gi_wp2_with (first | (refine ⟨trivial, ?_⟩; gi_at_call 13; (refine (callsIn_wide.2 (demerit_Line.calls K _ _ xs (i : Int) ((xs.length : Nat) : Int) v d 0 _ ?s1 ?s2 HD.out)).mono ?_); (case s1 => exact Kd.C_below HR.out (by rw [HBS.out]; exact HB.out.trans HK.out.1)); (case s2 => exact HC.out); rintro e w5 ⟨rfl, hb⟩; (have HK5 := Aside0.mk (HK.out.trans (K3.of_below hb (Nat.le_trans (by rw [← HBS.out]; exact HB.out.size) HK.out.1.size) (Nat.lt_of_lt_of_le HPW.out HK.out.1.size)))); (have HJ5 := Aside0.mk (HJJ.out _ _ _ none HJS.out (grown_of_below hb) (fun r e => by cases e))); obtain ⟨fn, tmps, assign, body, hy, hR⟩ := HYY.out pre (((xs.length : Nat) : Int), d) w5 HJ5.out (by have := HPL.out; omega); dsimp only at hy; rw [clp_in (by omega) (by have := HJJA.out; omega)] at hy; clear hb))
          refine hR.mono ?_
          rintro e W6 (⟨rfl, hJ6, hK6⟩ | ⟨rfl, hJx⟩)
          · gi_wp2
            go_roundw
            case rel => exact ⟨k + 1, pre ++ [(((xs.length : Nat) : Int), d)], by omega, by first | rw [arg1] | go_num, HZ', ⟨hJ6⟩, ⟨HK5.out.trans hK6⟩⟩
            case measure => simp [intOf]; omega
          · gi_wp2
            refine bodyPost_ret (results_none rfl _ _ _) rfl ?_
            exact ⟨⟨_, rfl⟩, .inr ⟨_, ⟨k + 1, by omega, HZ'.out⟩, hJx⟩⟩
        · have f1 : ((k : Int) = 0) = False := eq_false (by omega)
          have f2 : ((k : Int) == 0) = false := beq_eq_false_iff_ne.2 (by omega)
          have f3 : decide ((k : Int) = 0) = false := decide_eq_false (by omega)
          have hj : i + k = jj := by have := HJE.out; unfold jAt at this; rw [if_neg hk0] at this; exact this
          rw [hj] at arg2
          have arg3 : (i : Int) + (k : Int) = (jj : Int) := by omega
          clear hk0 hj
          gi_wp2_with (first | (refine ⟨trivial, ?_⟩; gi_at_call 13; (refine (callsIn_wide.2 (demerit_Line.calls K _ _ xs (i : Int) ((jj : Nat) : Int) v d 0 _ ?s1 ?s2 HD.out)).mono ?_); (case s1 => exact Kd.C_below HR.out (by rw [HBS.out]; exact HB.out.trans HK.out.1)); (case s2 => exact HC.out); rintro e w5 ⟨rfl, hb⟩; (have HK5 := Aside0.mk (HK.out.trans (K3.of_below hb (Nat.le_trans (by rw [← HBS.out]; exact HB.out.size) HK.out.1.size) (Nat.lt_of_lt_of_le HPW.out HK.out.1.size)))); (have HJ5 := Aside0.mk (HJJ.out _ _ _ none HJS.out (grown_of_below hb) (fun r e => by cases e))); obtain ⟨fn, tmps, assign, body, hy, hR⟩ := HYY.out pre (((jj : Nat) : Int), d) w5 HJ5.out (by have := HPL.out; omega); dsimp only at hy; rw [clp_in (by omega) (by have := HJJA.out; omega)] at hy; clear hb))
          refine hR.mono ?_
          rintro e W6 (⟨rfl, hJ6, hK6⟩ | ⟨rfl, hJx⟩)
          · gi_wp2
            go_roundw
            case rel => exact ⟨k + 1, pre ++ [(((jj : Nat) : Int), d)], by omega, by first | rw [arg1] | go_num, HZ', ⟨hJ6⟩, ⟨HK5.out.trans hK6⟩⟩
            case measure => simp [intOf]; omega
          · gi_wp2
            refine bodyPost_ret (results_none rfl _ _ _) rfl ?_
            exact ⟨⟨_, rfl⟩, .inr ⟨_, ⟨k + 1, by omega, HZ'.out⟩, hJx⟩⟩
      · have HZ' : Aside0 (breaker_problem_lines.l K xs v i (k + 1) = some pre) := ⟨by have := HZ.out; rwa [if_neg hok] at this⟩
        have o2 : (ok == 0) = false := beq_eq_false_iff_ne.2 hok
        have o1 : (ok = 0) = False := eq_false hok
        have o3 : decide (ok = 0) = false := decide_eq_false hok
        clear HZ hok
        by_cases hk0 : k = 0
        · have f1 : ((k : Int) = 0) = True := eq_true (by omega)
          have f2 : ((k : Int) == 0) = true := beq_iff_eq.2 (by omega)
          have f3 : decide ((k : Int) = 0) = true := decide_eq_true (by omega)
          have hj : jj = xs.length := by have := HJE.out; unfold jAt at this; rw [if_pos hk0] at this; exact this.symm
          subst hj
          clear hk0
          gi_wp2_with (first | (refine ⟨trivial, ?_⟩; gi_at_call 13; (refine (callsIn_wide.2 (demerit_Line.calls K _ _ xs (i : Int) ((xs.length : Nat) : Int) v d ok _ ?s1 ?s2 HD.out)).mono ?_); (case s1 => exact Kd.C_below HR.out (by rw [HBS.out]; exact HB.out.trans HK.out.1)); (case s2 => exact HC.out); rintro e w5 ⟨rfl, hb⟩; (have HK5 := Aside0.mk (HK.out.trans (K3.of_below hb (Nat.le_trans (by rw [← HBS.out]; exact HB.out.size) HK.out.1.size) (Nat.lt_of_lt_of_le HPW.out HK.out.1.size)))); (have HJ5 := Aside0.mk (HJJ.out _ _ _ none HJS.out (grown_of_below hb) (fun r e => by cases e))); clear hb) | (refine ⟨fun _ h_ => absurd h_ (by simp), ?_⟩))
          go_roundw
          case rel => exact ⟨k + 1, pre, by omega, by first | rw [arg1] | go_num, HZ', HJ5, HK5⟩
          case measure => simp [intOf]; omega
        · have f1 : ((k : Int) = 0) = False := eq_false (by omega)
          have f2 : ((k : Int) == 0) = false := beq_eq_false_iff_ne.2 (by omega)
          have f3 : decide ((k : Int) = 0) = false := decide_eq_false (by omega)
          have hj : i + k = jj := by have := HJE.out; unfold jAt at this; rw [if_neg hk0] at this; exact this
          rw [hj] at arg2
          have arg3 : (i : Int) + (k : Int) = (jj : Int) := by omega
          clear hk0 hj
          gi_wp2_with (first | (refine ⟨trivial, ?_⟩; gi_at_call 13; (refine (callsIn_wide.2 (demerit_Line.calls K _ _ xs (i : Int) ((jj : Nat) : Int) v d ok _ ?s1 ?s2 HD.out)).mono ?_); (case s1 => exact Kd.C_below HR.out (by rw [HBS.out]; exact HB.out.trans HK.out.1)); (case s2 => exact HC.out); rintro e w5 ⟨rfl, hb⟩; (have HK5 := Aside0.mk (HK.out.trans (K3.of_below hb (Nat.le_trans (by rw [← HBS.out]; exact HB.out.size) HK.out.1.size) (Nat.lt_of_lt_of_le HPW.out HK.out.1.size)))); (have HJ5 := Aside0.mk (HJJ.out _ _ _ none HJS.out (grown_of_below hb) (fun r e => by cases e))); clear hb) | (refine ⟨fun _ h_ => absurd h_ (by simp), ?_⟩))
          go_roundw
          case rel => exact ⟨k + 1, pre, by omega, by first | rw [arg1] | go_num, HZ', HJ5, HK5⟩
          case measure => simp [intOf]; omega
    · obtain rfl : k = xs.length - i := by omega
      have e1' : decide (((xs.length - i : Nat) : Int) < (xs.length : Int) - (i : Int)) = false := decide_eq_false (by omega)
      have e2 : (((xs.length - i : Nat) : Int) < (xs.length : Int) - (i : Int)) = False := eq_false (by omega)
      gi_wp2
      go_end0
      have h1 := HYS.out
      rw [HPRE.out] at h1
      exact ⟨⟨_, rfl⟩, .inl ⟨pre, Option.some.inj h1, HJS.out⟩⟩
end
/-! ### a row of ends in a block of its own -/
abbrev EndV := Int × Int × Bool
def encE (e : EndV) : List Value := [.int .i64 e.1, .int .i64 e.2.1, .bool e.2.2]
def mkEnds (o : List EndV) : Array Value := (o.flatMap encE).toArray
def re (o : List EndV) (i : Int) : EndV := o.getD i.toNat (0, 0, false)
theorem flatE_get : ∀ (o : List EndV) (j : Nat) (h : j < o.length), (o.flatMap encE)[j * 3]? = some (.int .i64 o[j].1) ∧ (o.flatMap encE)[j * 3 + 1]? = some (.int .i64 o[j].2.1) ∧ (o.flatMap encE)[j * 3 + 2]? = some (.bool o[j].2.2)
  | [], j, h => by simp at h
  | e :: o, 0, _ => by simp [encE]
  | e :: o, j + 1, h => by
    have ih := flatE_get o j (by simpa using h)
    have e1 : (e :: o).flatMap encE = Value.int .i64 e.1 :: Value.int .i64 e.2.1 :: Value.bool e.2.2 :: o.flatMap encE := rfl
    rw [e1, show (j + 1) * 3 = j * 3 + 3 by omega]
    exact ih
theorem mkEnds_get (o : List EndV) (j : Nat) (h : j < o.length) : (mkEnds o)[j * 3]? = some (.int .i64 (re o (j : Int)).1) ∧ (mkEnds o)[j * 3 + 1]? = some (.int .i64 (re o (j : Int)).2.1) ∧ (mkEnds o)[j * 3 + 2]? = some (.bool (re o (j : Int)).2.2) := by
  have := flatE_get o j h
  have e : re o (j : Int) = o[j] := by simp [re, h]
  rw [e]
  simpa [mkEnds] using this
theorem flatE_len : ∀ o : List EndV, (o.flatMap encE).length = o.length * 3
  | [] => rfl
  | e :: o => by
    have e1 : (e :: o).flatMap encE = Value.int .i64 e.1 :: Value.int .i64 e.2.1 :: Value.bool e.2.2 :: o.flatMap encE := rfl
    rw [e1]
    simp only [List.length_cons]
    rw [flatE_len o]
    omega
theorem mkEnds_size (o : List EndV) : (mkEnds o).size = o.length * 3 := by
  have := flatE_len o
  simpa only [mkEnds, List.size_toArray] using this
theorem flatE_set : ∀ (o : List EndV) (j : Nat) (e : EndV), j < o.length → (((o.flatMap encE).set (j * 3) (.int .i64 e.1)).set (j * 3 + 1) (.int .i64 e.2.1)).set (j * 3 + 2) (.bool e.2.2) = (o.set j e).flatMap encE
  | [], j, e, h => by simp at h
  | x :: o, 0, e, _ => rfl
  | x :: o, j + 1, e, h => by
    have ih := flatE_set o j e (by simpa using h)
    have e1 : (x :: o).flatMap encE = Value.int .i64 x.1 :: Value.int .i64 x.2.1 :: Value.bool x.2.2 :: o.flatMap encE := rfl
    have e2 : ((x :: o).set (j + 1) e).flatMap encE = Value.int .i64 x.1 :: Value.int .i64 x.2.1 :: Value.bool x.2.2 :: (o.set j e).flatMap encE := rfl
    rw [e1, e2, show (j + 1) * 3 = j * 3 + 3 by omega, ← ih]
    rfl
theorem mkEnds_set (o : List EndV) (j : Nat) (e : EndV) (h : j < o.length) : (((mkEnds o).setIfInBounds (j * 3) (.int .i64 e.1)).setIfInBounds (j * 3 + 1) (.int .i64 e.2.1)).setIfInBounds (j * 3 + 2) (.bool e.2.2) = mkEnds (o.set j e) := by
  unfold mkEnds
  rw [← flatE_set o j e h]
  simp
theorem madeEnds (m : Nat) : madeCells (Value.agg #[.int .i64 0, .int .i64 0, .bool false]).cells (m * 3) = mkEnds (List.replicate m (0, 0, false)) := by
  apply Array.ext'
  have h1 : (Value.agg #[.int .i64 0, .int .i64 0, .bool false]).cells = #[Value.int .i64 0, Value.int .i64 0, Value.bool false] := rfl
  rw [h1]
  have hl : ∀ t : Nat, (List.range (t * 3)).map (fun i => (#[Value.int .i64 0, Value.int .i64 0, Value.bool false][i % 3]?).getD undef) = (List.replicate t ((0, 0, false) : EndV)).flatMap encE := by
    intro t
    induction t with
    | zero => rfl
    | succ t ih =>
      rw [List.replicate_succ', List.flatMap_append, ← ih, show (t + 1) * 3 = t * 3 + 1 + 1 + 1 by omega, List.range_succ, List.range_succ, List.range_succ]
      simp [List.map_append, encE, show (t * 3) % 3 = 0 by omega, show (t * 3 + 1) % 3 = 1 by omega, show (t * 3 + 1 + 1) % 3 = 2 by omega]
  rw [show (mkEnds (List.replicate m (0, 0, false))).toList = (List.replicate m ((0, 0, false) : EndV)).flatMap encE from by simp [mkEnds], ← hl m]
  simp only [madeCells, Array.toList_map, Array.toList_range]
  refine List.map_congr_left fun i hi => ?_
  show #[Value.int .i64 0, Value.int .i64 0, Value.bool false][i % 3]! = #[Value.int .i64 0, Value.int .i64 0, Value.bool false][i % 3]?.getD undef
  have h3 : i % 3 < 3 := Nat.mod_lt _ (by decide)
  generalize i % 3 = r at h3
  match r, h3 with
  | 0, _ => rfl
  | 1, _ => rfl
  | 2, _ => rfl
theorem infoE : (Try.prog.info? 52).map (fun i => (i.zero, i.size, i.bytes)) = some (some (.agg #[(.int .i64 0), (.int .i64 0), (.bool false)]), 3, 24) := by kernel_rfl
set_option maxHeartbeats 1000000 in
theorem best1_calls (W : World) (b g : Nat) (o : List EndV) (ln i : Int) (n : Nat) (hn : n = o.length) (hi0 : 0 ≤ i) (hi1 : i < (o.length : Int)) (hb : W.heap[b]? = some (.cells #[.slice (some ⟨g, 0, none⟩) n n] 47 (0, 0))) (hg : W.heap[g]? = some (.cells (mkEnds o) 52 (0, 0))) :
    Calls Try.prog 27 #[.int .i64 ln, .int .i64 i, .pointer (some ⟨b, 0, none⟩)] W fun e w' => e = .returned (.agg #[.int .i64 (re o i).1, .int .i64 (re o i).2.1, .bool (re o i).2.2]) ∧ Below W.heap.size W w' := by
  subst hn
  obtain ⟨j, rfl⟩ : ∃ j : Nat, i = (j : Int) := ⟨i.toNat, by omega⟩
  have hm := mkEnds_get o j (by omega)
  have c0 : W.cell? ⟨b, 0, none⟩ = some (.slice (some ⟨g, 0, none⟩) o.length o.length) := (blk_cell hb 0).trans rfl
  have x0 : (W.alloc (.cells #[.int .i64 0, .int .i64 0, .bool false] 52)).cell? ⟨b, 0, none⟩ = some (.slice (some ⟨g, 0, none⟩) o.length o.length) := (blk_cell (blk_alloc hb _) 0).trans rfl
  have x1 : (W.alloc (.cells #[.int .i64 0, .int .i64 0, .bool false] 52)).cell? ⟨g, j * 3, none⟩ = some (.int .i64 (re o (j : Int)).1) := (blk_cell (blk_alloc hg _) _).trans hm.1
  have x2 : (W.alloc (.cells #[.int .i64 0, .int .i64 0, .bool false] 52)).cell? ⟨g, j * 3 + 1, none⟩ = some (.int .i64 (re o (j : Int)).2.1) := (blk_cell (blk_alloc hg _) _).trans hm.2.1
  have x3 : (W.alloc (.cells #[.int .i64 0, .int .i64 0, .bool false] 52)).cell? ⟨g, j * 3 + 2, none⟩ = some (.bool (re o (j : Int)).2.2) := (blk_cell (blk_alloc hg _) _).trans hm.2.2
  have lb := blk_lt hb
  have lg := blk_lt hg
  go_enter Try.func27, Try.ntmps27
  go_wp2
  refine bodyPost_ret (results_cell_row rfl _ _ W.heap.size 52 #[.int .i64 (re o (j : Int)).1, .int .i64 (re o (j : Int)).2.1, .bool (re o (j : Int)).2.2] (0, 0) _ rfl (blk_new W _) Try.underlying52 rfl (by kernel_rfl)) rfl ?_
  exact ⟨rfl, (Below.refl _ W).alloc (Nat.le_refl _) _⟩
/-! ### follow -/
/-- follow's loop: the starts so far, the next one, the line's number. -/
def breaker_problem_follow.l (N : Nat) (nx : Int → Int → Int) : Nat → List Int → Int → Int → Option (List Int)
  | 0, _, _, _ => none
  | k + 1, acc, i, ln => if i < (N : Int) then (if 0 ≤ i then (if acc.length < 17592186044416 then breaker_problem_follow.l N nx k (acc ++ [i]) (nx ln i) (wrap64 (ln + 1)) else none) else none) else some acc
theorem follow_mono (N : Nat) (nx : Int → Int → Int) : ∀ k acc i ln, LeO (breaker_problem_follow.l N nx k acc i ln) (breaker_problem_follow.l N nx (k + 1) acc i ln)
  | 0, _, _, _ => LeO.none _
  | k + 1, acc, i, ln => by
    unfold breaker_problem_follow.l
    exact LeO.ite (LeO.ite (LeO.ite (follow_mono N nx k _ _ _) (LeO.refl _)) (LeO.refl _)) (LeO.refl _)
set_option maxRecDepth 100000 in
set_option maxHeartbeats 4000000 in
theorem follow_best (k : Nat) (A : Option Addr) (c : Nat) (xs : List S34) (wd ind : Int) (b g : Nat) (o : List EndV) (n : Nat) (hn : n = o.length) (ho : o.length = xs.length + 1) (r : List Int) (w : World) (hb : w.heap[b]? = some (.cells #[.slice (some ⟨g, 0, none⟩) n n] 47 (0, 0))) (hg : w.heap[g]? = some (.cells (mkEnds o) 52 (0, 0)))
    (h : breaker_problem_follow.l xs.length (fun _ i => (re o i).2.1) k [] 0 0 = some r) :
    Calls Try.prog 26 #[.agg #[.slice A xs.length c, .int .i64 wd, .int .i64 ind], .func (.func 27) #[] #[.pointer (some ⟨b, 0, none⟩)]] w fun e w' => ∃ v0_ : Value, e = .returned v0_ ∧ Kd.R (Kd.int .i64) 3 w' w.heap.size (fun _ => True) v0_ r ∧ Below w.heap.size w w' := by
  have H' := Aside0.mk h
  have HGB := Aside0.mk hb
  have HGG := Aside0.mk hg
  have HN := Aside0.mk hn
  have HOL := Aside0.mk ho
  clear h hb hg hn ho
  have hfl : ∀ (x y z : Value) (W : World), (Instr.field 52 (.agg #[x, y, z]) 1).run Try.prog W = .ok y W := fun _ _ _ _ => by kernel_rfl
  go_enter Try.func26, Try.ntmps26
  have HW0 : Aside0 ((w.alloc (.cells #[.slice A xs.length c, .int .i64 wd, .int .i64 ind] 46)).heap[w.heap.size]? = some (.cells #[.slice A xs.length c, .int .i64 wd, .int .i64 ind] 46 (0, 0))) := ⟨blk_new w _⟩
  have HB0 : Aside0 (Below w.heap.size w (w.alloc (.cells #[.slice A xs.length c, .int .i64 wd, .int .i64 ind] 46))) := ⟨(Below.refl _ w).alloc (Nat.le_refl _) _⟩
  have HS0 : Aside0 ((w.alloc (.cells #[.slice A xs.length c, .int .i64 wd, .int .i64 ind] 46)).heap.size = w.heap.size + 1) := ⟨by simp⟩
  go_wp2
  obtain ⟨W0, hW0⟩ : ∃ W0, w.alloc (.cells #[.slice A xs.length c, .int .i64 wd, .int .i64 ind] 46) = W0 := ⟨_, rfl⟩
  simp only [hW0] at HW0 HB0 HS0 ⊢
  have HB := Aside0.mk (Below.refl W0.heap.size W0)
  go_loopg [5, 6, 7] k (fun kq v5 v6 v7 w' => ∃ (acc : List Int) (i ln : Int), v6 = .int .i64 i ∧ v7 = .int .i64 ln ∧ Aside0 (breaker_problem_follow.l xs.length (fun _ i => (re o i).2.1) kq acc i ln = some r) ∧ Aside0 (kq ≤ k) ∧ Aside0 (Kd.R (Kd.int .i64) 3 w' W0.heap.size (fun _ => True) v5 acc) ∧ Aside0 (Below W0.heap.size W0 w'))
  case atStart => exact ⟨[], 0, 0, rfl, rfl, H', ⟨Nat.le_refl _⟩, ⟨Kd.R_nil _ _ _ _ _⟩, HB⟩
  case round =>
    clear H'
    obtain ⟨acc, i, ln, rfl, rfl, HA, HK1, HO, HB⟩ := hrel
    cases gk with
    | zero => exact absurd HA.out (by simp [breaker_problem_follow.l])
    | succ k1 =>
      have H := HA.out
      clear HA
      simp only [breaker_problem_follow.l] at H
      have q0 : wr.cell? ⟨w.heap.size, 0, none⟩ = some (.slice A xs.length c) := (blk_cell (blk_below HW0.out HB.out) 0).trans rfl
      by_cases c5 : i < (xs.length : Int)
      · rw [if_pos c5] at H
        have c5b0 : decide (i < (xs.length : Int)) = true := decide_eq_true c5
        have C5 := Aside0.mk c5
        clear c5
        by_cases c7 : 0 ≤ i
        case neg => rw [if_neg c7] at H; exact absurd H (by simp)
        rw [if_pos c7] at H
        have C7 := Aside0.mk c7
        clear c7
        by_cases c10 : acc.length < 17592186044416
        case neg => rw [if_neg c10] at H; exact absurd H (by simp)
        rw [if_pos c10] at H
        have LM := Aside0.mk c10
        clear c10
        obtain ⟨y1, hy1⟩ : ∃ y_ : List Int, y_ = acc ++ [i] := ⟨_, rfl⟩
        rw [← hy1] at H
        have NY := Aside0.mk hy1
        clear hy1
        have H' := Aside0.mk H
        clear H
        go_wp2_with (first | ((with_reducible refine gate_builtin (b := .append) (xs := #[.tmp 15, .tmp 17]) rfl ?_); at_builtin; refine Kd.R_append (Kd.int .i64) (w0 := W0) W0.heap.size rfl (.tmp 15) (.tmp 17) 27 3 (.int .i64 0) 8 rfl Try.underlying27 info3 rfl (by decide) (by omega) u5 acc i [.int .i64 i] (fun _ => True) (fun _ => False) rfl rfl ?aP (fun _ hk => hk.elim) ?aF ?aO ?aB ?aS ?aL ?_; (case aP => exact rfl); (case aB => exact HB.out); (case aF => exact (fun _ _ => trivial)); (case aO => exact HO.out); (case aS => exact HB.out.size); (case aL => have := LM.out; omega); intro v298 w11 ho hb hg hat; rw [← NY.out] at ho; have n0_ := Aside0.mk (hb); have n1_ := Aside0.mk (ho); clear HB; clear HO; have HB := n0_; have HO := n1_; clear n0_ n1_; clear ho hb hg hat) | go_at_fn 27)
        refine (best1_calls _ b g o ln i n HN.out C7.out (by have := C5.out; have := HOL.out; omega) ?s1 ?s2).mono ?_
        case s1 => exact blk_below HGB.out (HB0.out.trans (HB.out.mono HB0.out.size))
        case s2 => exact blk_below HGG.out (HB0.out.trans (HB.out.mono HB0.out.size))
        rintro e w12 ⟨rfl, hb12⟩
        have HB2 := Aside0.mk (HB.out.trans (hb12.mono HB.out.size))
        have HO2 := Aside0.mk (Kd.R_below HO.out hb12)
        clear hb12 HO HB
        go_wp2
        go_roundg k1
        case measure => have := HK1.out; omega
        case rel => exact ⟨y1, (re o i).2.1, wrap64 (ln + 1), rfl, rfl, H', ⟨by have := HK1.out; omega⟩, HO2, HB2⟩
      · rw [if_neg c5] at H
        have c5b0 : decide (i < (xs.length : Int)) = false := decide_eq_false c5
        obtain rfl := Option.some.inj H
        go_wp2
        go_ret
        exact ⟨_, rfl, Kd.R_lower HO.out (by have := HS0.out; omega), HB0.out.trans (HB.out.mono HB0.out.size)⟩
section
open Go.Shelf
attribute [local go_sem] Oper.semAt_some
theorem lines_stops (n : Nat) (hn : 1 ≤ n) (p base : Nat) (w0 : World) (hbase : w0.heap.size = base) (hp : base ≤ p) (A : Option Addr) (c : Nat) (xs : List S34) (wd ind v : Int) (i : Nat) (hi : i < xs.length) (hc : xs.length ≤ c) (hlen : xs.length ≤ 1000)
    (K : Nat) (ys : List (Int × Int)) (hys : breaker_problem_lines.l K xs v i (xs.length - i) = some ys) (hr : Kd.C k34 w0 A xs.length xs)
    (w : World) (hB : Below base w0 w) (hp0 : w.heap[p]? = some (.cells #[.slice A xs.length c, .int .i64 wd, .int .i64 ind] 46 (0, 0))) (hi0 : w.heap[p + 1]? = some (.cells #[.int .i64 i] 3 (0, 0))) (hv0 : w.heap[p + 1 + 1]? = some (.cells #[.int .i64 v] 3 (0, 0))) :
    SeqStopsK Fence.wide n Try.prog 36 #[.pointer (some ⟨p, 0, none⟩), .pointer (some ⟨p + 1, 0, none⟩), .pointer (some ⟨p + 1 + 1, 0, none⟩)] (fun x : Int × Int => #[Value.int .i64 (clp xs.length x.1), Value.int .i64 x.2]) (K3 base p)
      (fun zs => zs = ys) (fun pre => ∃ k, k ≤ xs.length - i ∧ breaker_problem_lines.l K xs v i k = some pre) (xs.length - i) w := fun l J Jx W hW hJ _ hY h0 => by
  have q0 := blk_below hp0 hW
  have q1 := blk_below hi0 hW
  have q2 := blk_below hv0 hW
  exact lines1_in n hn l p base w0 hbase hp A c xs wd ind v i hi hc hlen K ys hys hr J Jx W (hB.trans (hW.mono (by rw [← hbase]; exact hB.size))) (blk_lt q2) hJ hY ((blk_cell q0 0).trans rfl) ((blk_cell q1 0).trans rfl) ((blk_cell q2 0).trans rfl) h0
theorem k3K_t {base p : Nat} {A B C : World} (h : K3 base p A B) (k : K3 base p B C) : K3 base p A C := h.trans k
/-- What Best's loop keeps in memory. -/
structure BsI (w : World) (A0 : Option Addr) (c0 : Nat) (l0 : List S34) (a1 a2 : Int) (g : Nat) (W : World) (o : List EndV) (b11 : Nat) (i : Int) (Ds : List Nat) : Prop where
  i9 : W.heap[w.heap.size]? = some (.cells #[.slice A0 l0.length c0, .int .i64 a1, .int .i64 a2] 46 (0, 0))
  row : W.heap[g]? = some (.cells (mkEnds o) 52 (0, 0))
  len : o.length = l0.length + 1
  i10 : W.heap[g + 1]? = some (.cells #[.slice (some ⟨g, 0, none⟩) (l0.length + 1) (l0.length + 1)] 47 (0, 0))
  i11 : W.heap[b11]? = some (.cells #[.int .i64 i] 3 (0, 0))
  lt11 : g + 1 < b11
  lt9 : w.heap.size < g
  below : Below w.heap.size w W
  opn : Opn W Ds
  low : ∀ D ∈ Ds, w.heap.size ≤ D
/-- One end in Best's inner loop. -/
def breaker_Best.s (i : Int) (s : List EndV) (x : Int × Int) : List EndV := if (re s i).2.2 = false ∨ wrap64 (x.2 + (re s x.1).1) < (re s i).1 then s.set i.toNat (wrap64 (x.2 + (re s x.1).1), x.1, true) else s
/-- The same where the end is brought into the row's range. -/
def breaker_Best.c (N : Nat) (i : Int) (s : List EndV) (x : Int × Int) : List EndV := breaker_Best.s i s (clp N x.1, x.2)
theorem best_c_len (N : Nat) (i : Int) (s : List EndV) (x : Int × Int) : (breaker_Best.c N i s x).length = s.length := by
  unfold breaker_Best.c breaker_Best.s
  split
  · exact List.length_set
  · rfl
theorem best_fold_len (N : Nat) (i : Int) : ∀ (ys : List (Int × Int)) (s : List EndV), (ys.foldl (breaker_Best.c N i) s).length = s.length
  | [], _ => rfl
  | y :: ys, s => by rw [List.foldl_cons, best_fold_len N i ys, best_c_len]
theorem best_fold (N : Nat) (i : Int) : ∀ (ys : List (Int × Int)) (s : List EndV), (∀ y ∈ ys, 0 ≤ y.1 ∧ y.1 ≤ (N : Int)) → ys.foldl (breaker_Best.c N i) s = ys.foldl (breaker_Best.s i) s
  | [], _, _ => rfl
  | y :: ys, s, h => by
    have h1 := h y List.mem_cons_self
    rw [List.foldl_cons, List.foldl_cons, best_fold N i ys _ (fun z hz => h z (List.mem_cons_of_mem _ hz))]
    unfold breaker_Best.c
    rw [clp_in h1.1 h1.2]
/-- Best's loop, from i = m - 1 on down. -/
def breaker_Best.l (k : Nat) (xs : List S34) (wd ind : Int) : Nat → List EndV → Option (List EndV)
  | 0, o => some o
  | m + 1, o => (breaker_problem_lines.l k xs (if (m : Int) > 0 then wrap64 (wd - ind) else wd) m (xs.length - m)).bind fun ys => breaker_Best.l k xs wd ind m (ys.foldl (breaker_Best.s (m : Int)) o)
def breaker_Best.f (k : Nat) (l0 : List S34) (a1 a2 : Int) : Option (List Int × Int × Int) :=
  (breaker_problem_valid.f k l0 a1 a2).bind fun v => if v = true then (if l0.length ≤ 1000 then (breaker_Best.l k l0 a1 a2 l0.length (List.replicate (l0.length + 1) (0, 0, false))).bind fun o => (breaker_problem_follow.l l0.length (fun _ i => (re o i).2.1) k [] 0 0).bind fun st => some (st, (re o 0).1, 0) else none) else some ([], 0, 1)
theorem wpIn_nopanic {F : Fence} {n : Nat} {P : Program} {c : Code} {Q : Exit → Act → World → Prop} {a : Act} {w : World} (h : c.wpIn F n P (fun e a w => match e with | .panic _ => False | e => Q e a w) a w) : c.wpIn F n P Q a w := wpIn_mono h (fun e a w h => by
  cases e with
  | panic ch => exact h.elim
  | normal => exact h
  | exit id => exact h
  | goto l => exact h
  | ret => exact h
  | outgrown => exact h)
theorem Opn.drew {w : World} {Ds : List Nat} (h : Opn w Ds) : Opn w.drew Ds := h
theorem Opn.below {w W : World} {Ds : List Nat} (h : Opn w Ds) (hb : Below w.heap.size w W) : Opn W Ds := ⟨h.1, fun D hD => (hb.block D (h.lt D hD)).trans (h.2 D hD)⟩
theorem best_stored {W : World} {b g b11 p : Nat} {c9 c10 c11 : Array Value} {q' : List EndV} {Ds : List Nat} {w : World} {m : Nat} {t nx : Int} {B : Nat}
    (w9 : W.heap[b]? = some (.cells c9 46 (0, 0))) (wR : W.heap[g]? = some (.cells (mkEnds q') 52 (0, 0))) (w10 : W.heap[g + 1]? = some (.cells c10 47 (0, 0))) (w11 : W.heap[b11]? = some (.cells c11 3 (0, 0))) (wO : Opn W Ds) (wB : Below b w W)
    (l9 : b < g) (l11 : g + 1 < b11) (lp : b11 < p) (hm : m < q'.length) :
    KeepsFrom B W (((W.setCell ⟨g, m * 3, none⟩ (.int .i64 t)).setCell ⟨g, m * 3 + 1, none⟩ (.int .i64 nx)).setCell ⟨g, m * 3 + 2, none⟩ (.bool true)) ∧ K3 b p W (((W.setCell ⟨g, m * 3, none⟩ (.int .i64 t)).setCell ⟨g, m * 3 + 1, none⟩ (.int .i64 nx)).setCell ⟨g, m * 3 + 2, none⟩ (.bool true)) ∧
    ((((((((W.setCell ⟨g, m * 3, none⟩ (.int .i64 t)).setCell ⟨g, m * 3 + 1, none⟩ (.int .i64 nx)).setCell ⟨g, m * 3 + 2, none⟩ (.bool true)).heap[b]? = some (.cells c9 46 (0, 0)) ∧ (((W.setCell ⟨g, m * 3, none⟩ (.int .i64 t)).setCell ⟨g, m * 3 + 1, none⟩ (.int .i64 nx)).setCell ⟨g, m * 3 + 2, none⟩ (.bool true)).heap[g]? = some (.cells (mkEnds (q'.set m (t, nx, true))) 52 (0, 0))) ∧ (((W.setCell ⟨g, m * 3, none⟩ (.int .i64 t)).setCell ⟨g, m * 3 + 1, none⟩ (.int .i64 nx)).setCell ⟨g, m * 3 + 2, none⟩ (.bool true)).heap[g + 1]? = some (.cells c10 47 (0, 0))) ∧ (((W.setCell ⟨g, m * 3, none⟩ (.int .i64 t)).setCell ⟨g, m * 3 + 1, none⟩ (.int .i64 nx)).setCell ⟨g, m * 3 + 2, none⟩ (.bool true)).heap[b11]? = some (.cells c11 3 (0, 0))) ∧ Opn (((W.setCell ⟨g, m * 3, none⟩ (.int .i64 t)).setCell ⟨g, m * 3 + 1, none⟩ (.int .i64 nx)).setCell ⟨g, m * 3 + 2, none⟩ (.bool true)) Ds) ∧ Below b w (((W.setCell ⟨g, m * 3, none⟩ (.int .i64 t)).setCell ⟨g, m * 3 + 1, none⟩ (.int .i64 nx)).setCell ⟨g, m * 3 + 2, none⟩ (.bool true))) := by
  have hk := ((KeepsOthers.setCell W ⟨g, m * 3, none⟩ (.int .i64 t)).trans (KeepsOthers.setCell _ ⟨g, m * 3 + 1, none⟩ (.int .i64 nx))).trans (KeepsOthers.setCell _ ⟨g, m * 3 + 2, none⟩ (.bool true))
  have far : ∀ {y : Nat} {cs : Array Value} {ty : TypeId}, W.heap[y]? = some (.cells cs ty (0, 0)) → y ≠ g → (((W.setCell ⟨g, m * 3, none⟩ (.int .i64 t)).setCell ⟨g, m * 3 + 1, none⟩ (.int .i64 nx)).setCell ⟨g, m * 3 + 2, none⟩ (.bool true)).heap[y]? = some (.cells cs ty (0, 0)) := fun h e => blk_far (blk_far (blk_far h (p := ⟨g, m * 3, none⟩) e _) (p := ⟨g, m * 3 + 1, none⟩) e _) (p := ⟨g, m * 3 + 2, none⟩) e _
  have same : ∀ y : Nat, y ≠ g → (((W.setCell ⟨g, m * 3, none⟩ (.int .i64 t)).setCell ⟨g, m * 3 + 1, none⟩ (.int .i64 nx)).setCell ⟨g, m * 3 + 2, none⟩ (.bool true)).heap[y]? = W.heap[y]? := fun y e => by
    rw [Below.heap_setCell _ _ _ _ (show y ≠ (⟨g, m * 3 + 2, none⟩ : Addr).block from e), Below.heap_setCell _ _ _ _ (show y ≠ (⟨g, m * 3 + 1, none⟩ : Addr).block from e), Below.heap_setCell _ _ _ _ (show y ≠ (⟨g, m * 3, none⟩ : Addr).block from e)]
  have bel : ∀ {X : World}, Below b X W → Below b X (((W.setCell ⟨g, m * 3, none⟩ (.int .i64 t)).setCell ⟨g, m * 3 + 1, none⟩ (.int .i64 nx)).setCell ⟨g, m * 3 + 2, none⟩ (.bool true)) := fun h => ((h.setCell (p := ⟨g, m * 3, none⟩) (Nat.le_of_lt l9) _).setCell (p := ⟨g, m * 3 + 1, none⟩) (Nat.le_of_lt l9) _).setCell (p := ⟨g, m * 3 + 2, none⟩) (Nat.le_of_lt l9) _
  exact ⟨hk.from _, ⟨bel (Below.refl b W), same _ (by omega), same _ (by omega), same _ (by omega)⟩, ⟨⟨⟨⟨⟨far w9 (by omega), blk_put (blk_put (blk_put wR (m * 3) _ rfl) (m * 3 + 1) _ rfl) (m * 3 + 2) _ (mkEnds_set q' m (t, nx, true) hm)⟩, far w10 (by omega)⟩, far w11 (by omega)⟩, wO.kept hk⟩, bel wB⟩⟩
set_option maxRecDepth 100000 in
set_option maxHeartbeats 4000000 in
theorem breaker_Best.calls (k : Nat) (A0 : Option Addr) (c0 : Nat) (l0 : List S34) (a1 a2 : Int) (r1 : List Int) (r2 r3 : Int) (w : World) (hr0 : Kd.C k34 w A0 l0.length l0) (hc0 : l0.length ≤ c0) (h : breaker_Best.f k l0 a1 a2 = some (r1, r2, r3)) :
    Calls Try.prog 12 #[.slice A0 l0.length c0, .int .i64 a1, .int .i64 a2] w fun e w' => ∃ v0_ : Value, e = .returned (.tuple #[v0_, .int .i64 r2, .int .i64 r3]) ∧ Kd.R (Kd.int .i64) 3 w' w.heap.size (fun _ => True) v0_ r1 ∧ Below w.heap.size w w' := by
  have HR := Aside0.mk hr0
  have HC := Aside0.mk hc0
  clear hr0 hc0
  unfold breaker_Best.f at h
  obtain ⟨v, hv, h⟩ := Option.bind_eq_some_iff.1 h
  have HV := Aside0.mk hv
  clear hv
  have hu_ := Try.underlying46
  refine (callsIn_wide (n := 8)).1 ?_
  refine callsIn_of_wp_marks Try.func12 rfl trivial ?_ rfl
  simp only [Try.ntmps12, List.size_toArray, List.length_cons, List.length_nil, Nat.reduceAdd, Nat.reduceSub, Array.replicate_succ, Array.replicate_zero, List.push_toArray, List.append_toArray, List.nil_append, List.cons_append]
  have HB1 := Aside0.mk ((Below.refl w.heap.size w).alloc (Nat.le_refl _) (.cells #[.slice A0 l0.length c0, .int .i64 a1, .int .i64 a2] 46))
  cases v with
  | false =>
    rw [if_neg (by decide)] at h
    simp only [Option.some.injEq, Prod.mk.injEq] at h
    obtain ⟨rfl, rfl, rfl⟩ := h
    gi_wp2_with (first | (refine ⟨trivial, ?_⟩; gi_at_call 24; (refine (callsIn_wide.2 (breaker_problem_valid.calls k _ _ l0 a1 a2 false _ ?s1 ?s2 HV.out)).mono ?_); (case s1 => exact Kd.C_below HR.out HB1.out); (case s2 => exact HC.out); rintro e w5 ⟨rfl, hb⟩; (have HB2 := Aside0.mk (HB1.out.trans (hb.mono HB1.out.size))); clear hb))
    refine leaves_mks (fn := Try.f12) [] _ (Opn.nil _) (fun W hW => ⟨.tuple #[.slice none 0 0, .int .i64 0, .int .i64 1], by simp [results, Try.f12, go_sem], _, rfl, Kd.R_nil _ _ _ _ _, HB2.out.trans (hW.below (by simp))⟩)
  | true =>
    rw [if_pos rfl] at h
    by_cases hlen : l0.length ≤ 1000
    case neg => rw [if_neg hlen] at h; cases h
    rw [if_pos hlen] at h
    obtain ⟨o, ho, h⟩ := Option.bind_eq_some_iff.1 h
    obtain ⟨st, hst_, h⟩ := Option.bind_eq_some_iff.1 h
    simp only [Option.some.injEq, Prod.mk.injEq] at h
    obtain ⟨rfl, rfl, rfl⟩ := h
    have HO := Aside0.mk ho
    have HFOL := Aside0.mk hst_
    clear ho hst_
    have hmk : ∀ W : World, (Instr.makeSlice 47 (.int .i64 ((l0.length : Int) + 1)) (.int .i64 ((l0.length : Int) + 1))).run Try.prog W = .ok (.slice (some ⟨W.heap.size, 0, none⟩) (l0.length + 1) (l0.length + 1)) (W.alloc (.cells (mkEnds (List.replicate (l0.length + 1) (0, 0, false))) 52)) := fun W => by
      obtain ⟨i0, hi, hz0, hz1, hz2⟩ := info_parts infoE
      have h1 := run_make (P := Try.prog) W 47 52 i0 _ Try.underlying47 hi hz0 .i64 .i64 ((l0.length : Int) + 1) ((l0.length : Int) + 1) (by omega) (Int.le_refl _) (by rw [hz2]; omega) (by omega)
      rw [hz1, show ((l0.length : Int) + 1).toNat = l0.length + 1 from by omega, madeEnds] at h1
      exact h1
    gi_wp2_with (first | (refine ⟨trivial, ?_⟩; gi_at_call 24; (refine (callsIn_wide.2 (breaker_problem_valid.calls k _ _ l0 a1 a2 true _ ?s1 ?s2 HV.out)).mono ?_); (case s1 => exact Kd.C_below HR.out HB1.out); (case s2 => exact HC.out); rintro e w5 ⟨rfl, hb⟩; (have HB2 := Aside0.mk (HB1.out.trans (hb.mono HB1.out.size))); (have HW5 := Aside0.mk hb); (have HG := Aside0.mk (show w.heap.size < w5.heap.size from by have := hb.size; rw [World.size_alloc] at this; omega)); clear hb))
    have hg0 : w.heap.size < w5.heap.size := HG.out
    have hW0 : Aside0 (BsI w A0 c0 l0 a1 a2 w5.heap.size (((w5.alloc (.cells (mkEnds (List.replicate (l0.length + 1) (0, 0, false))) 52)).alloc (.cells #[.slice (some ⟨w5.heap.size, 0, none⟩) (l0.length + 1) (l0.length + 1)] 47)).alloc (.cells #[.int .i64 ((l0.length : Int) - 1)] 3)) (List.replicate (l0.length + 1) (0, 0, false)) (w5.heap.size + 1 + 1) ((l0.length : Int) - 1) []) := ⟨by
      refine ⟨blk_alloc (blk_alloc (blk_alloc (blk_below (blk_new w _) HW5.out) _) _) _, blk_alloc (blk_alloc (blk_new w5 _) _) _, by simp, ?_, ?_, by omega, hg0, ((HB2.out.alloc HB2.out.size _).alloc (Nat.le_trans HB2.out.size (by simp)) _).alloc (Nat.le_trans HB2.out.size (by simp; omega)) _, Opn.nil _, fun D hD => by cases hD⟩
      · have h1 := blk_new (w5.alloc (.cells (mkEnds (List.replicate (l0.length + 1) (0, 0, false))) 52)) (.cells #[.slice (some ⟨w5.heap.size, 0, none⟩) (l0.length + 1) (l0.length + 1)] 47)
        rw [World.size_alloc] at h1
        exact blk_alloc h1 _
      · have h1 := blk_new ((w5.alloc (.cells (mkEnds (List.replicate (l0.length + 1) (0, 0, false))) 52)).alloc (.cells #[.slice (some ⟨w5.heap.size, 0, none⟩) (l0.length + 1) (l0.length + 1)] 47)) (.cells #[.int .i64 ((l0.length : Int) - 1)] 3)
        rw [World.size_alloc, World.size_alloc] at h1
        exact h1⟩
    clear hmk HB2 HW5 hg0 HG
    generalize hgg : w5.heap.size = g at hW0 ⊢
    generalize (((w5.alloc (.cells (mkEnds (List.replicate (l0.length + 1) (0, 0, false))) 52)).alloc (.cells #[.slice (some ⟨g, 0, none⟩) (l0.length + 1) (l0.length + 1)] 47)).alloc (.cells #[.int .i64 ((l0.length : Int) - 1)] 3)) = W1 at hW0 ⊢
    clear hgg
    refine wpIn_loop_g (fun m a W => ∃ (q : List EndV) (b11 : Nat) (Ds : List Nat) (u29 u30 u31 u32 u33 u34 u35 u66 : Value), m ≤ l0.length ∧ Aside0 (breaker_Best.l k l0 a1 a2 m q = some o) ∧ Aside0 (BsI w A0 c0 l0 a1 a2 g W q b11 ((m : Int) - 1) Ds) ∧ a = { tmps := List.toArray (.slice A0 l0.length c0 :: .int .i64 a1 :: .int .i64 a2 :: undef :: undef :: undef :: .slice none 0 0 :: .int .i64 0 :: .int .i64 0 :: .pointer (some ⟨w.heap.size, 0, none⟩) :: .pointer (some ⟨g + 1, 0, none⟩) :: .pointer (some ⟨b11, 0, none⟩) :: undef :: undef :: undef :: .slice A0 l0.length c0 :: .int .i64 a1 :: .int .i64 a2 :: .agg #[.slice A0 l0.length c0, .int .i64 a1, .int .i64 a2] :: .agg #[.slice A0 l0.length c0, .int .i64 a1, .int .i64 a2] :: .bool true :: .bool false :: .slice A0 l0.length c0 :: .int .i64 (l0.length : Int) :: .int .i64 ((l0.length : Int) + 1) :: .slice (some ⟨g, 0, none⟩) (l0.length + 1) (l0.length + 1) :: .slice A0 l0.length c0 :: .int .i64 (l0.length : Int) :: .int .i64 ((l0.length : Int) - 1) :: u29 :: u30 :: u31 :: u32 :: u33 :: u34 :: u35 :: undef :: undef :: undef :: undef :: undef :: undef :: undef :: undef :: undef :: undef :: undef :: undef :: undef :: undef :: undef :: undef :: undef :: undef :: undef :: undef :: undef :: undef :: undef :: undef :: undef :: undef :: undef :: undef :: undef :: undef :: u66 :: undef :: undef :: undef :: undef :: undef :: undef :: undef :: []), defers := mks Ds }) l0.length ?start ?round
    case start => exact ⟨_, _, [], _, _, _, _, _, _, _, _, Nat.le_refl _, HO, hW0, rfl⟩
    case round =>
      clear hW0 HO
      rintro m _ W ⟨q, b11, Ds, u29, u30, u31, u32, u33, u34, u35, u66, hm, HQ, HI, rfl⟩
      cases m with
      | zero =>
        have h11 : W.cell? ⟨b11, 0, none⟩ = some (.int .i64 (-1)) := (blk_cell HI.out.i11 0).trans rfl
        gi_wp2
        obtain rfl := Option.some.inj HQ.out
        have z9 := HI.out.i9
        have z10 := HI.out.i10
        have zr := HI.out.row
        have HLQ := Aside0.mk HI.out.len
        have ZL := Aside0.mk HI.out.lt9
        have HLOW := Aside0.mk HI.out.low
        have zb := HI.out.below
        have zo := HI.out.opn
        have zq : (mkEnds q)[0]? = some (.int .i64 (re q 0).1) := (mkEnds_get q 0 (by have := HLQ.out; omega)).1
        clear HI h11
        refine wpIn_nopanic (wpIn_wide.2 ?_)
        refine start_ (n := 10) (S := fun w' => w'.cell? ⟨w.heap.size, 0, none⟩ = some (.slice A0 l0.length c0) ∧ w'.cell? ⟨w.heap.size, 1, none⟩ = some (.int .i64 a1) ∧ w'.cell? ⟨w.heap.size, 2, none⟩ = some (.int .i64 a2) ∧ w'.cell? ⟨g + 1, 0, none⟩ = some (.slice (some ⟨g, 0, none⟩) (l0.length + 1) (l0.length + 1)) ∧ w'.cell? ⟨g, 0, none⟩ = some (.int .i64 (re q 0).1) ∧ w'.heap[g + 1]? = some (.cells #[.slice (some ⟨g, 0, none⟩) (l0.length + 1) (l0.length + 1)] 47 (0, 0)) ∧ w'.heap[g]? = some (.cells (mkEnds q) 52 (0, 0)) ∧ Below w.heap.size w w' ∧ Opn w' Ds) (ds := []) #[false, false, false, false, false, false, false, false, false, false] (by kernel_rfl) rfl rfl ⟨(blk_cell (blk_drew z9) 0).trans rfl, (blk_cell (blk_drew z9) 1).trans rfl, (blk_cell (blk_drew z9) 2).trans rfl, (blk_cell (blk_drew z10) 0).trans rfl, (blk_cell (blk_drew zr) 0).trans zq, blk_drew z10, blk_drew zr, below_drew1 zb, zo.drew⟩ (fun hHeld => ?_)
        generalize W.drew = Wd at hHeld ⊢
        refine pure_ (i := 1) (N := some 68) (v := ?_) (a' := ?_) #[false, true, false, false, false, false, false, false, false, false] rfl rfl (by kernel_rfl) (fun _ _ _ h => h) (Or.inl ⟨by rfl, ?_⟩) ?_ ?_
        rotate_left
        · intro w'
          go_simp
          with_reducible rfl
        rotate_left
        · simp only [Act.put, List.setIfInBounds_toArray, List.set_cons_zero, List.set_cons_succ, i64_w, i32_w]
          rfl
        refine take_ (i := 0) (N := some 67) (v := ?_) (a' := ?_) #[true, true, false, false, false, false, false, false, false, false] rfl rfl (by kernel_rfl) (fun _ _ _ h => h) (Or.inl ⟨by rfl, ?_⟩) hHeld ?_ ?_
        rotate_left
        · rintro w' ⟨s0, s1, s2, s3, s4, s5, s6, s7, s8⟩
          go_simp
          with_reducible rfl
        rotate_left
        · simp only [Act.put, List.setIfInBounds_toArray, List.set_cons_zero, List.set_cons_succ, i64_w, i32_w]
          rfl
        refine take_ (i := 3) (N := some 70) (v := ?_) (a' := ?_) #[true, true, false, true, false, false, false, false, false, false] rfl rfl (by kernel_rfl) (fun _ _ _ h => h) (Or.inl ⟨by rfl, ?_⟩) hHeld ?_ ?_
        rotate_left
        · rintro w' ⟨s0, s1, s2, s3, s4, s5, s6, s7, s8⟩
          go_simp
          with_reducible rfl
        rotate_left
        · simp only [Act.put, List.setIfInBounds_toArray, List.set_cons_zero, List.set_cons_succ, i64_w, i32_w]
          rfl
        refine pure_ (i := 4) (N := some 71) (v := ?_) (a' := ?_) #[true, true, false, true, true, false, false, false, false, false] rfl rfl (by kernel_rfl) (fun _ _ _ h => h) (Or.inl ⟨by rfl, ?_⟩) ?_ ?_
        rotate_left
        · intro w'
          go_simp
          with_reducible rfl
        rotate_left
        · simp only [Act.put, List.setIfInBounds_toArray, List.set_cons_zero, List.set_cons_succ, i64_w, i32_w]
          rfl
        refine pure_ (i := 5) (N := some 72) (v := ?_) (a' := ?_) #[true, true, false, true, true, true, false, false, false, false] rfl rfl (by kernel_rfl) (fun _ _ _ h => h) (Or.inl ⟨by rfl, ?_⟩) ?_ ?_
        rotate_left
        · intro w'
          go_simp
          with_reducible rfl
        rotate_left
        · simp only [Act.put, List.setIfInBounds_toArray, List.set_cons_zero, List.set_cons_succ, i64_w, i32_w]
          rfl
        refine take_ (i := 6) (N := some 73) (v := ?_) (a' := ?_) #[true, true, false, true, true, true, true, false, false, false] rfl rfl (by kernel_rfl) (fun _ _ _ h => h) (Or.inl ⟨by rfl, ?_⟩) hHeld ?_ ?_
        rotate_left
        · rintro w' ⟨s0, s1, s2, s3, s4, s5, s6, s7, s8⟩
          go_simp
          with_reducible rfl
        rotate_left
        · simp only [Act.put, List.setIfInBounds_toArray, List.set_cons_zero, List.set_cons_succ, i64_w, i32_w]
          rfl
        refine one_ (i := 2) (N := some 69) #[true, true, true, true, true, true, true, false, false, false] rfl rfl (by kernel_rfl) (by decide) (fun K hK => ?_)
        refine goes_ Try.func26 (by kernel_rfl) rfl #[.agg #[.slice A0 l0.length c0, .int .i64 a1, .int .i64 a2], .func (.func 27) #[] #[.pointer (some ⟨g + 1, 0, none⟩)]] (by rfl) rfl rfl (by simp only [List.map_toArray, List.map_cons, List.map_nil]; rfl) ?_
        with_reducible refine (follow_best k A0 c0 l0 a1 a2 (g + 1) g q _ (by have := HLQ.out; omega) HLQ.out st _ hHeld.2.2.2.2.2.1 hHeld.2.2.2.2.2.2.1 HFOL.out).mono ?_
        rintro e w3 ⟨v0_, rfl, hRv, hbv⟩
        refine ⟨_, rfl, ?_⟩
        obtain ⟨s0, s1, s2, s3, s4, s5, s6, s7, s8⟩ := hHeld
        have hRw := Aside0.mk hRv
        have hbw := Aside0.mk hbv
        clear hRv hbv
        refine hK.out _ _ ⟨(cell_blk s0 (hbw.out.block _ (show w.heap.size < _ from by have := blk_lt s6; have := ZL.out; omega))), (cell_blk s1 (hbw.out.block _ (show w.heap.size < _ from by have := blk_lt s6; have := ZL.out; omega))), (cell_blk s2 (hbw.out.block _ (show w.heap.size < _ from by have := blk_lt s6; have := ZL.out; omega))), (cell_blk s3 (hbw.out.block _ (blk_lt s5))), (cell_blk s4 (hbw.out.block _ (blk_lt s6))), (blk_below s5 hbw.out), (blk_below s6 hbw.out), (s7.trans (hbw.out.mono s7.size)), (s8.below hbw.out)⟩ (fun hHeld => ?_)
        clear hK K
        refine norm_ (a' := ?_) ?_ ?_
        rotate_left
        · show Act.put _ (some 69) _ = _
          simp only [Act.put, List.setIfInBounds_toArray, List.set_cons_zero, List.set_cons_succ, i64_w, i32_w]
          rfl
        refine pure_ (i := 7) (N := some 6) (v := ?_) (a' := ?_) #[true, true, true, true, true, true, true, true, false, false] rfl rfl (by kernel_rfl) (fun _ _ _ h => h) (Or.inl ⟨by rfl, ?_⟩) ?_ ?_
        rotate_left
        · intro w'
          go_simp
          with_reducible rfl
        rotate_left
        · simp only [Act.put, List.setIfInBounds_toArray, List.set_cons_zero, List.set_cons_succ, i64_w, i32_w]
          rfl
        refine pure_ (i := 8) (N := some 7) (v := ?_) (a' := ?_) #[true, true, true, true, true, true, true, true, true, false] rfl rfl (by kernel_rfl) (fun _ _ _ h => h) (Or.inl ⟨by rfl, ?_⟩) ?_ ?_
        rotate_left
        · intro w'
          go_simp
          with_reducible rfl
        rotate_left
        · simp only [Act.put, List.setIfInBounds_toArray, List.set_cons_zero, List.set_cons_succ, i64_w, i32_w]
          rfl
        refine pure_ (i := 9) (N := some 8) (v := ?_) (a' := ?_) #[true, true, true, true, true, true, true, true, true, true] rfl rfl (by kernel_rfl) (fun _ _ _ h => h) (Or.inl ⟨by rfl, ?_⟩) ?_ ?_
        rotate_left
        · intro w'
          go_simp
          with_reducible rfl
        rotate_left
        · simp only [Act.put, List.setIfInBounds_toArray, List.set_cons_zero, List.set_cons_succ, i64_w, i32_w]
          rfl
        refine done_ (by kernel_rfl) ?_
        show Exit.then _ _ Exit.normal _ _
        gi_wp2
        refine leaves_mks (fn := Try.f12) Ds _ hHeld.2.2.2.2.2.2.2.2 (fun W' hW => ⟨.tuple #[v0_, .int .i64 (re q 0).1, .int .i64 0], by simp [results, Try.f12, go_sem], _, rfl, ?_, hHeld.2.2.2.2.2.2.2.1.trans (hW.below HLOW.out)⟩)
        exact Kd.R_lower (Kd.R_mono (Kd.R_step (Kd.R_bound hRw.out) (fun k hk _ => hW.2.2.2.2 k (fun e => absurd (s8.lt k e) (by have := hk.2.1; omega)))) (fun _ _ => trivial)) s7.size
      | succ m =>
        have HI' : Aside0 (BsI w A0 c0 l0 a1 a2 g W q b11 (m : Int) Ds) := ⟨by have := HI.out; rwa [show (((m + 1 : Nat) : Int) - 1) = (m : Int) by omega] at this⟩
        clear HI
        have h11 : W.cell? ⟨b11, 0, none⟩ = some (.int .i64 (m : Int)) := (blk_cell HI'.out.i11 0).trans rfl
        have h90 : W.cell? ⟨w.heap.size, 0, none⟩ = some (.slice A0 l0.length c0) := (blk_cell HI'.out.i9 0).trans rfl
        have h91 : W.cell? ⟨w.heap.size, 1, none⟩ = some (.int .i64 a1) := (blk_cell HI'.out.i9 1).trans rfl
        have h92 : W.cell? ⟨w.heap.size, 2, none⟩ = some (.int .i64 a2) := (blk_cell HI'.out.i9 2).trans rfl
        have e0 : decide ((m : Int) ≥ 0) = true := decide_eq_true (by omega)
        have e0' : decide (0 ≤ (m : Int)) = true := decide_eq_true (by omega)
        have e1 : (0 ≤ (m : Int)) = True := eq_true (by omega)
        obtain ⟨v, hvv⟩ : ∃ v, (if (m : Int) > 0 then wrap64 (a1 - a2) else a1) = v := ⟨_, rfl⟩
        have HVV := Aside0.mk hvv
        clear hvv
        gi_wp2_with (first | (refine ⟨trivial, ?_⟩; gi_at_call 25; (refine (lines_in 7 _ _ _ _ _ _ _ v HVV.out).mono ?_); rintro e w' ⟨rfl, rfl⟩))
        obtain ⟨ys, hys, hrest⟩ := Option.bind_eq_some_iff.1 (show (breaker_problem_lines.l k l0 (if (m : Int) > 0 then wrap64 (a1 - a2) else a1) m (l0.length - m)).bind _ = some o from HQ.out)
        rw [HVV.out] at hys
        have HYS := Aside0.mk hys
        have HRE := Aside0.mk hrest
        clear HQ hys hrest h11 h90 h91 h92 e0 e0' e1 HVV
        have pP := blk_alloc (blk_alloc (blk_new W (.cells #[.slice A0 l0.length c0, .int .i64 a1, .int .i64 a2] 46)) (.cells #[.int .i64 (m : Int)] 3)) (.cells #[.int .i64 v] 3)
        have pI := blk_alloc (blk_new (W.alloc (.cells #[.slice A0 l0.length c0, .int .i64 a1, .int .i64 a2] 46)) (.cells #[.int .i64 (m : Int)] 3)) (.cells #[.int .i64 v] 3)
        have pV := blk_new ((W.alloc (.cells #[.slice A0 l0.length c0, .int .i64 a1, .int .i64 a2] 46)).alloc (.cells #[.int .i64 (m : Int)] 3)) (.cells #[.int .i64 v] 3)
        have p9 := blk_alloc (blk_alloc (blk_alloc HI'.out.i9 (.cells #[.slice A0 l0.length c0, .int .i64 a1, .int .i64 a2] 46)) (.cells #[.int .i64 (m : Int)] 3)) (.cells #[.int .i64 v] 3)
        have pR := blk_alloc (blk_alloc (blk_alloc HI'.out.row (.cells #[.slice A0 l0.length c0, .int .i64 a1, .int .i64 a2] 46)) (.cells #[.int .i64 (m : Int)] 3)) (.cells #[.int .i64 v] 3)
        have p10 := blk_alloc (blk_alloc (blk_alloc HI'.out.i10 (.cells #[.slice A0 l0.length c0, .int .i64 a1, .int .i64 a2] 46)) (.cells #[.int .i64 (m : Int)] 3)) (.cells #[.int .i64 v] 3)
        have p11 := blk_alloc (blk_alloc (blk_alloc HI'.out.i11 (.cells #[.slice A0 l0.length c0, .int .i64 a1, .int .i64 a2] 46)) (.cells #[.int .i64 (m : Int)] 3)) (.cells #[.int .i64 v] 3)
        have pO : Opn (((W.alloc (.cells #[.slice A0 l0.length c0, .int .i64 a1, .int .i64 a2] 46)).alloc (.cells #[.int .i64 (m : Int)] 3)).alloc (.cells #[.int .i64 v] 3)) Ds := ((HI'.out.opn.kept (KeepsOthers.alloc _ _)).kept (KeepsOthers.alloc _ _)).kept (KeepsOthers.alloc _ _)
        have pB := ((HI'.out.below.alloc HI'.out.below.size (.cells #[.slice A0 l0.length c0, .int .i64 a1, .int .i64 a2] 46)).alloc (Nat.le_trans HI'.out.below.size (by simp)) (.cells #[.int .i64 (m : Int)] 3)).alloc (Nat.le_trans HI'.out.below.size (by simp; omega)) (.cells #[.int .i64 v] 3)
        have pS : (((W.alloc (.cells #[.slice A0 l0.length c0, .int .i64 a1, .int .i64 a2] 46)).alloc (.cells #[.int .i64 (m : Int)] 3)).alloc (.cells #[.int .i64 v] 3)).heap.size = W.heap.size + 3 := by simp
        rw [World.size_alloc] at pI
        rw [World.size_alloc, World.size_alloc] at pV
        have hlq := HI'.out.len
        have lt9 := HI'.out.lt9
        have lt11 := HI'.out.lt11
        have ltb := blk_lt HI'.out.i11
        have hlow := HI'.out.low
        have hold := HI'.out.opn.lt
        have hbz := HI'.out.below.size
        clear HI'
        obtain ⟨p, hpp⟩ : ∃ p, W.heap.size = p := ⟨_, rfl⟩
        rw [hpp] at pP pI pV pS ltb hold hbz ⊢
        generalize ((W.alloc (.cells #[.slice A0 l0.length c0, .int .i64 a1, .int .i64 a2] 46)).alloc (.cells #[.int .i64 (m : Int)] 3)).alloc (.cells #[.int .i64 v] 3) = W4 at pP pI pV p9 pR p10 p11 pO pB pS ⊢
        clear hpp W
        refine wpIn_rangeFunc_ownG rfl (show 1 ≤ 8 by decide) (gf := 36) (lb := #[.pointer (some ⟨p, 0, none⟩), .pointer (some ⟨p + 1, 0, none⟩), .pointer (some ⟨p + 1 + 1, 0, none⟩)]) rfl trivial (enters_of Try.func36 (by kernel_rfl) rfl)
          (lines_stops 7 (by decide) p w.heap.size w rfl (by omega) A0 c0 l0 a1 a2 v m (by omega) HC.out hlen k ys HYS.out HR.out W4 pB pP pI pV) k3K_t (k3K_b (by omega) (by omega)) (Below.refl _ _) (fun _ => rfl)
          (fun pre W' => ((((W'.heap[w.heap.size]? = some (.cells #[.slice A0 l0.length c0, .int .i64 a1, .int .i64 a2] 46 (0, 0)) ∧ W'.heap[g]? = some (.cells (mkEnds (pre.foldl (breaker_Best.c l0.length (m : Int)) q)) 52 (0, 0))) ∧ W'.heap[g + 1]? = some (.cells #[.slice (some ⟨g, 0, none⟩) (l0.length + 1) (l0.length + 1)] 47 (0, 0))) ∧ W'.heap[b11]? = some (.cells #[.int .i64 (m : Int)] 3 (0, 0))) ∧ Opn W' Ds) ∧ Below w.heap.size w W')
          (fun _ _ _ => False)
          ((((((blk_own _ _ (fun _ => _) _).and (blk_own _ _ (fun pre : List (Int × Int) => mkEnds (pre.foldl (breaker_Best.c l0.length (m : Int)) q)) _)).and (blk_own _ _ (fun _ => _) _)).and (blk_own _ _ (fun _ => _) _)).and (opn_ownFrom _ Ds (fun D hD => by have := hold D hD; omega))).and (ownFrom_below (Nat.le_refl _) (by omega)))
          (fun _ => fun _ _ _ _ hs _ _ => hs.elim)
          ⟨⟨⟨⟨⟨p9, pR⟩, p10⟩, p11⟩, pO⟩, pB⟩
          (fun x => { tmps := List.toArray (.slice A0 l0.length c0 :: .int .i64 a1 :: .int .i64 a2 :: undef :: undef :: undef :: .slice none 0 0 :: .int .i64 0 :: .int .i64 0 :: .pointer (some ⟨w.heap.size, 0, none⟩) :: .pointer (some ⟨g + 1, 0, none⟩) :: .pointer (some ⟨b11, 0, none⟩) :: .int .i64 (clp l0.length x.1) :: .int .i64 x.2 :: undef :: .slice A0 l0.length c0 :: .int .i64 a1 :: .int .i64 a2 :: .agg #[.slice A0 l0.length c0, .int .i64 a1, .int .i64 a2] :: .agg #[.slice A0 l0.length c0, .int .i64 a1, .int .i64 a2] :: .bool true :: .bool false :: .slice A0 l0.length c0 :: .int .i64 (l0.length : Int) :: .int .i64 ((l0.length : Int) + 1) :: .slice (some ⟨g, 0, none⟩) (l0.length + 1) (l0.length + 1) :: .slice A0 l0.length c0 :: .int .i64 (l0.length : Int) :: .int .i64 ((l0.length : Int) - 1) :: .int .i64 (m : Int) :: .bool true :: u31 :: u32 :: .agg #[.slice A0 l0.length c0, .int .i64 a1, .int .i64 a2] :: .int .i64 (m : Int) :: .func (.func 36) #[] #[.pointer (some ⟨p, 0, none⟩), .pointer (some ⟨p + 1, 0, none⟩), .pointer (some ⟨p + 1 + 1, 0, none⟩)] :: .int .i64 (clp l0.length x.1) :: .int .i64 x.2 :: undef :: undef :: undef :: undef :: undef :: undef :: undef :: undef :: undef :: undef :: undef :: undef :: undef :: undef :: undef :: undef :: undef :: undef :: undef :: undef :: undef :: undef :: undef :: undef :: undef :: undef :: undef :: undef :: u66 :: undef :: undef :: undef :: undef :: undef :: undef :: undef :: []), defers := [] }) ?assign ?body ?done ?stop
        case assign =>
          intro l x W K hK
          gi_wp2
          exact hK
        case body =>
          rintro l pre x W ⟨⟨⟨⟨⟨w9, wR⟩, w10⟩, w11⟩, wO⟩, wB⟩ _
          have hpl := best_fold_len l0.length (m : Int) pre q
          obtain ⟨q', hst⟩ : ∃ s, pre.foldl (breaker_Best.c l0.length (m : Int)) q = s := ⟨_, rfl⟩
          rw [hst] at wR hpl
          obtain ⟨hj0, hj1⟩ := clp_range l0.length x.1
          obtain ⟨j, hj⟩ : ∃ j : Nat, clp l0.length x.1 = j := ⟨(clp l0.length x.1).toNat, by omega⟩
          have HJ := Aside0.mk hj
          have HST := Aside0.mk hst
          rw [hj] at hj0 hj1
          have c10 : W.cell? ⟨g + 1, 0, none⟩ = some (.slice (some ⟨g, 0, none⟩) (l0.length + 1) (l0.length + 1)) := (blk_cell w10 0).trans rfl
          have c11 : W.cell? ⟨b11, 0, none⟩ = some (.int .i64 (m : Int)) := (blk_cell w11 0).trans rfl
          have gj := mkEnds_get q' j (by omega)
          have gm := mkEnds_get q' m (by omega)
          have cj0 : W.cell? ⟨g, j * 3, none⟩ = some (.int .i64 (re q' (j : Int)).1) := (blk_cell wR _).trans gj.1
          have cm0 : W.cell? ⟨g, m * 3, none⟩ = some (.int .i64 (re q' (m : Int)).1) := (blk_cell wR _).trans gm.1
          have cm1 : W.cell? ⟨g, m * 3 + 1, none⟩ = some (.int .i64 (re q' (m : Int)).2.1) := (blk_cell wR _).trans gm.2.1
          have cm2 : W.cell? ⟨g, m * 3 + 2, none⟩ = some (.bool (re q' (m : Int)).2.2) := (blk_cell wR _).trans gm.2.2
          have fm0 := blk_frozen wR (m * 3)
          have fm1 := blk_frozen wR (m * 3 + 1)
          have fm2 := blk_frozen wR (m * 3 + 2)
          rw [hj]
          clear hj hst gj gm
          have hfold : (pre ++ [x]).foldl (breaker_Best.c l0.length (m : Int)) q = breaker_Best.c l0.length (m : Int) q' x := by rw [List.foldl_append, HST.out]; rfl
          have HF := Aside0.mk hfold
          clear hfold
          obtain ⟨⟨tm, nm, fd⟩, hre⟩ : ∃ e, re q' (m : Int) = e := ⟨_, rfl⟩
          have HRM := Aside0.mk hre
          rw [hre] at cm0 cm1 cm2
          dsimp only at cm0 cm1 cm2
          clear hre
          cases fd with
          | false =>
            gi_wp2
            have hr := best_stored (m := m) (t := wrap64 (x.2 + (re q' (j : Int)).1)) (nx := (j : Int)) (B := W4.heap.size) w9 wR w10 w11 wO wB lt9 lt11 ltb (by omega)
            have e : breaker_Best.c l0.length (m : Int) q' x = q'.set m (wrap64 (x.2 + (re q' (j : Int)).1), (j : Int), true) := by
              unfold breaker_Best.c breaker_Best.s
              dsimp only
              rw [HJ.out, HRM.out, if_pos (.inl rfl), Int.toNat_natCast]
            refine ⟨hr.1, hr.2.1, ?_⟩
            try dsimp only
            rw [HF.out, e]
            exact hr.2.2
          | true =>
            by_cases hlt : wrap64 (x.2 + (re q' (j : Int)).1) < tm
            · have e2 : decide (wrap64 (x.2 + (re q' (j : Int)).1) < tm) = true := decide_eq_true hlt
              have HLT := Aside0.mk hlt
              clear hlt
              gi_wp2
              have hr := best_stored (m := m) (t := wrap64 (x.2 + (re q' (j : Int)).1)) (nx := (j : Int)) (B := W4.heap.size) w9 wR w10 w11 wO wB lt9 lt11 ltb (by omega)
              have e : breaker_Best.c l0.length (m : Int) q' x = q'.set m (wrap64 (x.2 + (re q' (j : Int)).1), (j : Int), true) := by
                unfold breaker_Best.c breaker_Best.s
                dsimp only
                rw [HJ.out, HRM.out, if_pos (.inr HLT.out), Int.toNat_natCast]
              refine ⟨hr.1, hr.2.1, ?_⟩
              try dsimp only
              rw [HF.out, e]
              exact hr.2.2
            · have e2 : decide (wrap64 (x.2 + (re q' (j : Int)).1) < tm) = false := decide_eq_false hlt
              have HLT := Aside0.mk hlt
              clear hlt
              gi_wp2
              have e : breaker_Best.c l0.length (m : Int) q' x = q' := by
                unfold breaker_Best.c breaker_Best.s
                dsimp only
                rw [HJ.out, HRM.out, if_neg (fun h => h.elim (fun h => by cases h) (fun h => absurd h (by have := HLT.out; dsimp only; omega)))]
              refine ⟨KeepsFrom.refl _ _, K3.refl _ _ _, ?_⟩
              try dsimp only
              rw [HF.out, e]
              exact ⟨⟨⟨⟨⟨w9, wR⟩, w10⟩, w11⟩, wO⟩, wB⟩
        case done =>
          rintro D ys' W hD rfl ⟨⟨⟨⟨⟨w9, wR⟩, w10⟩, w11⟩, wO⟩, wB⟩ hK
          have c11 : W.cell? ⟨b11, 0, none⟩ = some (.int .i64 (m : Int)) := (blk_cell w11 0).trans rfl
          have HD := Aside0.mk (wO.cons (w := W) hK (fun h => by have := hold D h; omega))
          clear hK
          gi_wp2
          have hb11 := blk_lt w11
          refine ⟨m, Nat.lt_succ_self m, (ys'.foldl (breaker_Best.c l0.length (m : Int)) q), W.heap.size, D :: Ds, _, _, _, _, _, _, _, _, by omega, ⟨?_⟩, ⟨?_⟩, rfl⟩
          · rw [best_fold l0.length (m : Int) ys' q (fun y hy => by have := lines_mem HYS.out (by omega) y hy; omega)]
            exact HRE.out
          · exact ⟨blk_alloc w9 _, blk_alloc wR _, by rw [best_fold_len]; exact hlq, blk_alloc w10 _, blk_new W _, by omega, lt9, wB.alloc wB.size _, HD.out.kept (KeepsOthers.alloc _ _), fun D' hD' => (List.mem_cons.1 hD').elim (fun e => by omega) (fun e => hlow D' e)⟩
        case stop => exact fun _ _ _ _ _ _ hf _ => hf.elim
end
theorem lines_l_mono (xs : List S34) (v : Int) (i : Nat) (k : Nat) : ∀ m, LeO (breaker_problem_lines.l k xs v i m) (breaker_problem_lines.l (k + 1) xs v i m)
  | 0 => LeO.refl _
  | m + 1 => by
    simp only [breaker_problem_lines.l]
    exact LeO.bind (lines_l_mono xs v i k m) (fun _ => LeO.bind (demerit_Line.mono _ _ _ _ _) (fun _ => LeO.refl _))
theorem best_l_mono (xs : List S34) (wd ind : Int) (k : Nat) : ∀ m o, LeO (breaker_Best.l k xs wd ind m o) (breaker_Best.l (k + 1) xs wd ind m o)
  | 0, _ => LeO.refl _
  | m + 1, o => by
    simp only [breaker_Best.l]
    exact LeO.bind (lines_l_mono _ _ _ _ _) (fun _ => best_l_mono xs wd ind k m _)
theorem breaker_Best.mono : ∀ a0 a1 a2 k, LeO (breaker_Best.f k a0 a1 a2) (breaker_Best.f (k + 1) a0 a1 a2) := by
  intro a0 a1 a2 k
  unfold breaker_Best.f
  refine LeO.bind (breaker_problem_valid.mono _ _ _ _) (fun _ => ?_)
  refine LeO.ite ?_ (LeO.refl _)
  refine LeO.ite ?_ (LeO.refl _)
  exact LeO.bind (best_l_mono _ _ _ _ _ _) (fun _ => LeO.bind (follow_mono _ _ _ _ _ _) (fun _ => LeO.refl _))

end Go.Proofs.Ytgickognjlapmaa.PR
