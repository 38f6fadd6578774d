-- Written by a program of this place (wip/gen.py) with the kit's print; not trusted: Lean checks it.
import Derived.Test.YtploigkfnkgjiaaPCx0
import Derived.Test.YtploigkfnkgjiaaPCx3
namespace Go.Proofs.Ytploigkfnkgjiaa.PC
open Go.RowKit Go.Proofs.YtploigkfnkgjiaaW.PrintWords Go.Proofs.YtploigkfnkgjiaaW.PrintLast Go.Proofs.YtploigkfnkgjiaaW.PrintMore
attribute [local go_sem] max2_int min2_int max_two min_two max_three min_three max_four min_four   -- for this text's walks alone
set_option linter.unusedVariables false
set_option linter.unusedSimpArgs false

/-! ### codec_reader_head: function 36, by hand -/
/-- The number that more bytes tell. -/
def foldB (l : List Int) : Int := l.foldl (fun n x => n * 256 + x) 0
/-- head: the kind, the number, whether there was one, what is left. -/
def rheadS : List Int → Int × Int × Bool × List Int
  | [] => (0, 0, false, [])
  | x :: r => if x % 64 < 56 then (x / 64, x % 64, true, r) else
      if x % 64 - 55 > (r.length : Int) then (0, 0, false, r) else
        if rd r 0 = 0 ∨ (x % 64 - 55 = 1 ∧ rd r 0 < 56) then (0, 0, false, r.drop (x % 64 - 55).toNat) else (x / 64, foldB (r.take (x % 64 - 55).toNat), true, r.drop (x % 64 - 55).toNat)
def Bytes (l : List Int) : Prop := ∀ x ∈ l, 0 ≤ x ∧ x < 256
theorem and63 (x : Int) (h : 0 ≤ x ∧ x < 256) : IntKind.u64.wrap (Go.bits .and .u8 x 63) = x % 64 := by rw [u8_and63 x h.1 h.2, wuE]; omega
theorem foldB_range : ∀ (l : List Int), Bytes l → ∀ a : Int, 0 ≤ a → 0 ≤ l.foldl (fun n x => n * 256 + x) a
  | [], _, a, h => h
  | x :: r, hb, a, h => by
    have h1 := hb x List.mem_cons_self
    exact foldB_range r (fun y hy => hb y (List.mem_cons_of_mem _ hy)) (a * 256 + x) (by omega)
theorem foldB_bound : ∀ (l : List Int), Bytes l → ∀ a b : Int, 0 ≤ a → a < b → l.foldl (fun n x => n * 256 + x) a < b * 256 ^ l.length
  | [], _, a, b, _, h => by simpa using h
  | x :: r, hb, a, b, h0, h => by
    have h1 := hb x List.mem_cons_self
    have := foldB_bound r (fun y hy => hb y (List.mem_cons_of_mem _ hy)) (a * 256 + x) (b * 256) (by omega) (by omega)
    rw [List.foldl_cons, List.length_cons, Int.pow_succ]
    rw [show b * (256 ^ r.length * 256) = b * 256 * 256 ^ r.length by rw [Int.mul_comm (256 ^ r.length) 256, Int.mul_assoc]]
    exact this
theorem foldB_small (l : List Int) (hb : Bytes l) (h : l.length ≤ 7) : 0 ≤ foldB l ∧ foldB l < 72057594037927936 := by
  refine ⟨foldB_range l hb 0 (Int.le_refl _), ?_⟩
  have h1 := foldB_bound l hb 0 1 (Int.le_refl _) (by omega)
  rw [Int.one_mul] at h1
  have h2 : (256 : Int) ^ l.length ≤ 72057594037927936 := by
    have : l.length = 0 ∨ l.length = 1 ∨ l.length = 2 ∨ l.length = 3 ∨ l.length = 4 ∨ l.length = 5 ∨ l.length = 6 ∨ l.length = 7 := by omega
    rcases this with e | e | e | e | e | e | e | e <;> rw [e] <;> decide
  exact Int.lt_of_lt_of_le h1 h2
theorem foldB_succ (o : List Int) (j : Nat) (h : j < o.length) : foldB (o.take (j + 1)) = foldB (o.take j) * 256 + rd o (j : Int) := by
  unfold foldB
  rw [List.take_succ_eq_append_getElem h, List.foldl_append]
  simp [rd, h]
theorem or_byte (a z : Int) (h0 : 0 ≤ a) (h1 : a < 72057594037927936) (z0 : 0 ≤ z ∧ z < 256) : Go.bits .or .u64 (IntKind.u64.wrap (a * 256)) (IntKind.u64.wrap z) = a * 256 + z := by
  obtain ⟨p, rfl⟩ : ∃ p : Nat, a = p := ⟨a.toNat, by omega⟩
  obtain ⟨q, rfl⟩ : ∃ q : Nat, z = q := ⟨z.toNat, by omega⟩
  have e1 : IntKind.u64.wrap ((p : Int) * 256) = ((p * 256 : Nat) : Int) := by rw [wuE]; omega
  have e2 : IntKind.u64.wrap (q : Int) = ((q : Nat) : Int) := by rw [wuE]; omega
  have hk : ∀ n : Int, 0 ≤ n → n < 2 ^ 64 → IntKind.u64.wrap n = n := fun n h h' => by
    have e : (2 : Int) ^ 64 = 18446744073709551616 := by decide
    rw [e] at h'
    rw [wuE]
    omega
  rw [e1, e2, (bits_nat .u64 64 (by decide) hk (p * 256) q (by omega) (by omega)).2]
  have h3 := Nat.two_pow_add_eq_or_of_lt (i := 8) (b := q) (by omega) p
  rw [show p * 256 = 2 ^ 8 * p by omega, ← h3]
  omega
set_option maxHeartbeats 3200000 in
set_option maxRecDepth 100000 in
theorem reader_head.calls (w0 w : World) (g : Nat) (l : List Int) (hb : Bytes l) (hg : w0.heap.size ≤ g) (hB : Below w0.heap.size w0 w) (hs : RdS w0 w g l) :
    Calls Try.prog 36 #[.pointer (some ⟨g, 0, none⟩)] w fun e w' => e = .returned (.tuple #[.int .i64 (rheadS l).1, .int .u64 (rheadS l).2.1, .bool (rheadS l).2.2.1]) ∧ RdS w0 w' g (rheadS l).2.2.2 ∧ Below w0.heap.size w0 w' ∧ Kept w w' (fun k => k = g) := by
  have HS := Aside0.mk hs
  have HB := Aside0.mk hB
  clear hs hB
  cases l with
  | nil =>
    have HT : Aside0 (takeS 1 [] = ([], false, [])) := ⟨by rw [takeS, if_pos (by simp)]⟩
    go_enter Try.func36, Try.ntmps36
    go_wp2_with (first | (go_at_call 38; (refine (reader_take.calls w0 _ g [] 1 (by omega) hg HB.out HS.out).mono ?_); rintro e w1 ⟨A1, c1, rfl, p1, p2, p3, p4, p5⟩; rw [HT.out] at p1 p2 p3 ⊢; dsimp only at p1 p2 p3 ⊢; (have P3 := Aside0.mk p3); (have P4 := Aside0.mk p4); (have P5 := Aside0.mk p5); clear p1 p2 p3 p4 p5))
    go_ret3
    exact ⟨rfl, P3.out, P4.out, P5.out⟩
  | cons x r =>
    have hx0 := hb x List.mem_cons_self
    have HT : Aside0 (takeS 1 (x :: r) = ([x], true, r)) := ⟨by rw [takeS, if_neg (by simp only [List.length_cons]; omega)]; simp⟩
    have e1 : wrap64 (x / 64) = x / 64 := by unfold wrap64; omega
    have e1' : IntKind.i64.wrap (x / 64) = x / 64 := by rw [IntKind.wrap_i64]; omega
    have e2 := and63 x hx0
    have hr : Bytes r := fun y hy => hb y (List.mem_cons_of_mem _ hy)
    simp only [rheadS]
    obtain ⟨kd, hkd⟩ : ∃ kd, x / 64 = kd := ⟨_, rfl⟩
    obtain ⟨n, hn⟩ : ∃ n, x % 64 = n := ⟨_, rfl⟩
    rw [hn] at e2 ⊢
    rw [hkd] at e1 e1' ⊢
    have E1 := Aside0.mk e1
    have hn0 : 0 ≤ n ∧ n < 64 := by omega
    have HX := Aside0.mk hx0
    have HRB := Aside0.mk hr
    clear hn hx0 hr hb
    by_cases c1 : n < 56
    · rw [if_pos c1]
      have b1 : decide (n < 56) = true := decide_eq_true c1
      clear c1
      go_enter Try.func36, Try.ntmps36
      go_wp2_with (first | (go_at_call 38; (refine (reader_take.calls w0 _ g (x :: r) 1 (by omega) hg HB.out HS.out).mono ?_); rintro e w1 ⟨A1, c1, rfl, p1, p2, p3, p4, p5⟩; rw [HT.out] at p1 p2 p3 ⊢; dsimp only at p1 p2 p3 ⊢; obtain ⟨ad, rfl, hx⟩ := Kd.at_int p1 0 (by omega) (by simp); replace hx := (p4.cell (World.block_lt_of_cell? w0 _ hx)).trans hx; rw [show rd [x] 0 = x from rfl, show Int.toNat 0 = 0 from rfl, Addr.add_zero'] at hx; (have P3 := Aside0.mk p3); (have P4 := Aside0.mk p4); (have P5 := Aside0.mk p5); clear p1 p2 p3 p4 p5))
      go_quiet (fail)
      go_wp2
      go_ret3
      exact ⟨by first | rfl | (rw [E1.out]; rfl) | (simp only [E1.out]; rfl), P3.out, pw_below_drewN P4.out _, P5.out⟩
    · rw [if_neg c1]
      have b1 : decide (n < 56) = false := decide_eq_false c1
      have e3 : IntKind.u64.wrap (IntKind.u64.wrap (n - 56) + 1) = n - 55 := by rw [wuE, wuE]; omega
      have e4 : IntKind.u64.wrap (n - 56) = n - 56 := by rw [wuE]; omega
      have e5 : IntKind.u64.wrap (n - 56 + 1) = n - 55 := by rw [wuE]; omega
      have hm0 : 1 ≤ n - 55 ∧ n - 55 ≤ 8 := by omega
      obtain ⟨m, hm⟩ : ∃ m, n - 55 = m := ⟨_, rfl⟩
      rw [hm] at e3 e5 hm0 ⊢
      have HM0 := Aside0.mk hm0
      clear c1 hm hn0 hm0
      by_cases c2 : m > (r.length : Int)
      · rw [if_pos c2]
        have HT2 : Aside0 (takeS m r = ([], false, r)) := ⟨if_pos c2⟩
        clear c2
        go_enter Try.func36, Try.ntmps36
        go_wp2_with (first | (go_at_call 38; (refine (reader_take.calls w0 _ g (x :: r) 1 (by omega) hg HB.out HS.out).mono ?_); rintro e w1 ⟨A1, c1, rfl, p1, p2, p3, p4, p5⟩; rw [HT.out] at p1 p2 p3 ⊢; dsimp only at p1 p2 p3 ⊢; obtain ⟨ad, rfl, hx⟩ := Kd.at_int p1 0 (by omega) (by simp); replace hx := (p4.cell (World.block_lt_of_cell? w0 _ hx)).trans hx; rw [show rd [x] 0 = x from rfl, show Int.toNat 0 = 0 from rfl, Addr.add_zero'] at hx; (have P3 := Aside0.mk p3); (have P4 := Aside0.mk p4); (have P5 := Aside0.mk p5); clear p1 p2 p3 p4 p5))
        go_quiet (fail)
        go_wp2_with (first | (go_at_call 38; (refine (reader_take.calls w0 _ g r m (by have := HM0.out; omega) hg (pw_below_drewN P4.out _) (show RdS w0 (w1.drewN _) g r from P3.out)).mono ?_); rintro e w2 ⟨A2, c2, rfl, q1, q2, q3, q4, q5⟩; rw [HT2.out] at q1 q2 q3 ⊢; dsimp only at q1 q2 q3 ⊢; (have Q3 := Aside0.mk q3); (have Q4 := Aside0.mk q4); (have Q5 := Aside0.mk (Kept.transE P5.out q5)); clear q1 q2 q3 q4 q5))
        go_ret3
        exact ⟨rfl, Q3.out, Q4.out, Q5.out⟩
      · rw [if_neg c2]
        obtain ⟨mm, rfl⟩ : ∃ mm : Nat, m = mm := ⟨m.toNat, by have := HM0.out; omega⟩
        rw [Int.toNat_natCast]
        have HT2 : Aside0 (takeS (mm : Int) r = (r.take mm, true, r.drop mm)) := ⟨by rw [takeS, if_neg c2, Int.toNat_natCast]⟩
        have hol : (r.take mm).length = mm := by rw [List.length_take]; omega
        have hy0 : rd (r.take mm) 0 = rd r 0 := by
          have h1 := HM0.out
          cases r with
          | nil => simp at c2; omega
          | cons y r' =>
            cases mm with
            | zero => omega
            | succ q => rfl
        have hob : Bytes (r.take mm) := fun y hy => HRB.out y (List.mem_of_mem_take hy)
        obtain ⟨o, ho⟩ : ∃ o, r.take mm = o := ⟨_, rfl⟩
        obtain ⟨rest, hrest⟩ : ∃ rest, r.drop mm = rest := ⟨_, rfl⟩
        obtain ⟨y, hy⟩ : ∃ y, rd r 0 = y := ⟨_, rfl⟩
        rw [ho] at HT2 hol hy0 hob
        rw [hrest] at HT2
        rw [hy] at hy0
        simp only [ho, hrest, hy]
        have HOL := Aside0.mk hol
        have HY := Aside0.mk hy0
        have HOB := Aside0.mk hob
        have f0 : (0 < o.length) = True := eq_true (by have := HM0.out; omega)
        have f0' : ((0 : Int) < (o.length : Int)) = True := eq_true (by have := HM0.out; omega)
        clear c2 ho hrest hy hol hy0 hob
        by_cases d1 : y = 0
        · rw [if_pos (.inl d1)]
          have f1 : (y == 0) = true := beq_iff_eq.2 d1
          clear d1
          go_enter Try.func36, Try.ntmps36
          go_wp2_with (first | (go_at_call 38; (refine (reader_take.calls w0 _ g (x :: r) 1 (by omega) hg HB.out HS.out).mono ?_); rintro e w1 ⟨A1, c1, rfl, p1, p2, p3, p4, p5⟩; rw [HT.out] at p1 p2 p3 ⊢; dsimp only at p1 p2 p3 ⊢; obtain ⟨ad, rfl, hx⟩ := Kd.at_int p1 0 (by omega) (by simp); replace hx := (p4.cell (World.block_lt_of_cell? w0 _ hx)).trans hx; rw [show rd [x] 0 = x from rfl, show Int.toNat 0 = 0 from rfl, Addr.add_zero'] at hx; (have P3 := Aside0.mk p3); (have P4 := Aside0.mk p4); (have P5 := Aside0.mk p5); clear p1 p2 p3 p4 p5))
          go_quiet (fail)
          go_wp2_with (first | (go_at_call 38; (refine (reader_take.calls w0 _ g r mm (by omega) hg (pw_below_drewN P4.out _) (show RdS w0 (w1.drewN _) g r from P3.out)).mono ?_); rintro e w2 ⟨A2, c2, rfl, q1, q2, q3, q4, q5⟩; rw [HT2.out] at q1 q2 q3 ⊢; dsimp only at q1 q2 q3 ⊢; obtain ⟨ad2, rfl, hy2⟩ := Kd.at_int q1 0 (by omega) (by have := HOL.out; have := HM0.out; omega); replace hy2 := (q4.cell (World.block_lt_of_cell? w0 _ hy2)).trans hy2; rw [HY.out, show Int.toNat 0 = 0 from rfl, Addr.add_zero'] at hy2; (have Q1 := Aside0.mk q1); (have Q3 := Aside0.mk q3); (have Q4 := Aside0.mk q4); (have Q5 := Aside0.mk (Kept.transE P5.out q5)); clear q1 q2 q3 q4 q5))
          go_ret3
          exact ⟨rfl, Q3.out, Q4.out, Q5.out⟩
        have f1 : (y == 0) = false := beq_eq_false_iff_ne.2 d1
        by_cases d2 : mm = 1
        · have f2 : ((o.length : Int) == 1) = true := beq_iff_eq.2 (by have := HOL.out; omega)
          have f2' : (o.length == 1) = true := beq_iff_eq.2 (by have := HOL.out; omega)
          have f2'' : o.length = 1 := by have := HOL.out; omega
          by_cases d3 : y < 56
          · rw [if_pos (.inr ⟨by omega, d3⟩)]
            have f3 : decide (y < 56) = true := decide_eq_true d3
            clear d1 d2 d3
            go_enter Try.func36, Try.ntmps36
            go_wp2_with (first | (go_at_call 38; (refine (reader_take.calls w0 _ g (x :: r) 1 (by omega) hg HB.out HS.out).mono ?_); rintro e w1 ⟨A1, c1, rfl, p1, p2, p3, p4, p5⟩; rw [HT.out] at p1 p2 p3 ⊢; dsimp only at p1 p2 p3 ⊢; obtain ⟨ad, rfl, hx⟩ := Kd.at_int p1 0 (by omega) (by simp); replace hx := (p4.cell (World.block_lt_of_cell? w0 _ hx)).trans hx; rw [show rd [x] 0 = x from rfl, show Int.toNat 0 = 0 from rfl, Addr.add_zero'] at hx; (have P3 := Aside0.mk p3); (have P4 := Aside0.mk p4); (have P5 := Aside0.mk p5); clear p1 p2 p3 p4 p5))
            go_quiet (fail)
            go_wp2_with (first | (go_at_call 38; (refine (reader_take.calls w0 _ g r mm (by omega) hg (pw_below_drewN P4.out _) (show RdS w0 (w1.drewN _) g r from P3.out)).mono ?_); rintro e w2 ⟨A2, c2, rfl, q1, q2, q3, q4, q5⟩; rw [HT2.out] at q1 q2 q3 ⊢; dsimp only at q1 q2 q3 ⊢; obtain ⟨ad2, rfl, hy2⟩ := Kd.at_int q1 0 (by omega) (by have := HOL.out; have := HM0.out; omega); replace hy2 := (q4.cell (World.block_lt_of_cell? w0 _ hy2)).trans hy2; rw [HY.out, show Int.toNat 0 = 0 from rfl, Addr.add_zero'] at hy2; (have Q1 := Aside0.mk q1); (have Q3 := Aside0.mk q3); (have Q4 := Aside0.mk q4); (have Q5 := Aside0.mk (Kept.transE P5.out q5)); clear q1 q2 q3 q4 q5))
            go_ret3
            exact ⟨rfl, Q3.out, Q4.out, Q5.out⟩
          · rw [if_neg (by rintro (h | ⟨_, h⟩); exact d1 h; exact d3 h)]
            have f3 : decide (y < 56) = false := decide_eq_false d3
            clear d1 d2 d3
            go_enter Try.func36, Try.ntmps36
            go_wp2_with (first | (go_at_call 38; (refine (reader_take.calls w0 _ g (x :: r) 1 (by omega) hg HB.out HS.out).mono ?_); rintro e w1 ⟨A1, c1, rfl, p1, p2, p3, p4, p5⟩; rw [HT.out] at p1 p2 p3 ⊢; dsimp only at p1 p2 p3 ⊢; obtain ⟨ad, rfl, hx⟩ := Kd.at_int p1 0 (by omega) (by simp); replace hx := (p4.cell (World.block_lt_of_cell? w0 _ hx)).trans hx; rw [show rd [x] 0 = x from rfl, show Int.toNat 0 = 0 from rfl, Addr.add_zero'] at hx; (have P3 := Aside0.mk p3); (have P4 := Aside0.mk p4); (have P5 := Aside0.mk p5); clear p1 p2 p3 p4 p5))
            go_quiet (fail)
            go_wp2_with (first | (go_at_call 38; (refine (reader_take.calls w0 _ g r mm (by omega) hg (pw_below_drewN P4.out _) (show RdS w0 (w1.drewN _) g r from P3.out)).mono ?_); rintro e w2 ⟨A2, c2, rfl, q1, q2, q3, q4, q5⟩; rw [HT2.out] at q1 q2 q3 ⊢; dsimp only at q1 q2 q3 ⊢; obtain ⟨ad2, rfl, hy2⟩ := Kd.at_int q1 0 (by omega) (by have := HOL.out; have := HM0.out; omega); replace hy2 := (q4.cell (World.block_lt_of_cell? w0 _ hy2)).trans hy2; rw [HY.out, show Int.toNat 0 = 0 from rfl, Addr.add_zero'] at hy2; (have Q1 := Aside0.mk q1); (have Q3 := Aside0.mk q3); (have Q4 := Aside0.mk q4); (have Q5 := Aside0.mk (Kept.transE P5.out q5)); clear q1 q2 q3 q4 q5))
            go_loopw [8, 62] (fun v i wr => ∃ j : Nat, j ≤ o.length ∧ i = .int .i64 j ∧ v = .int .u64 (foldB (o.take j)) ∧ wr = w2) (fun _ i _ => o.length - (intOf i).toNat)
            case atStart => exact ⟨0, Nat.zero_le _, rfl, by rw [List.take_zero]; rfl, rfl⟩
            case round =>
              obtain ⟨j, hj, rfl, rfl, rfl⟩ := hrel
              by_cases hlt : j < o.length
              · obtain ⟨ad3, e3_, hz⟩ := Kd.at_int Q1.out (j : Int) (by omega) (by omega)
                injection e3_ with e3_
                subst e3_
                replace hz := (Q4.out.cell (World.block_lt_of_cell? w0 _ hz)).trans hz
                rw [Int.toNat_natCast] at hz
                have hsucc := foldB_succ o j hlt
                have hzr : 0 ≤ rd o (j : Int) ∧ rd o (j : Int) < 256 := by
                  have := HOB.out o[j] (List.getElem_mem hlt)
                  simpa [rd, hlt] using this
                have har := foldB_small (o.take j) (fun y hy => HOB.out y (List.mem_of_mem_take hy)) (by rw [List.length_take]; have := HOL.out; have := HM0.out; omega)
                obtain ⟨z, hz2⟩ : ∃ z, rd o (j : Int) = z := ⟨_, rfl⟩
                obtain ⟨a, ha⟩ : ∃ a, foldB (o.take j) = a := ⟨_, rfl⟩
                rw [hz2] at hz hsucc hzr
                rw [ha] at hsucc har
                simp only [ha]
                have hor := or_byte a z har.1 har.2 hzr
                have HSU := Aside0.mk hsucc
                have HOR := Aside0.mk hor
                have hj8 : j < 9223372036854775807 := by have := HOL.out; have := HM0.out; omega
                clear hz2 ha hsucc hzr har hor
                go_wp2
                all_goals first
                  | (go_roundw
                     case rel => exact ⟨j + 1, hlt, by go_num, by rw [HOR.out, HSU.out], rfl⟩
                     case measure => simp [intOf]; omega)
                  | exact ⟨⟨j + 1, hlt, by go_num, by rw [HOR.out, HSU.out], trivial⟩, by simp [intOf]; omega⟩
              · obtain rfl : j = o.length := by omega
                simp only [List.take_length]
                go_wp2
                go_ret3
                exact ⟨by first | rfl | (rw [E1.out]; rfl) | (simp only [E1.out]; rfl), Q3.out, Q4.out, Q5.out⟩
        · rw [if_neg (by rintro (h | ⟨h, _⟩); exact d1 h; exact d2 (by omega))]
          have f2 : ((o.length : Int) == 1) = false := beq_eq_false_iff_ne.2 (by have := HOL.out; omega)
          have f2' : (o.length == 1) = false := beq_eq_false_iff_ne.2 (by have := HOL.out; omega)
          have f2'' : (o.length = 1) = False := eq_false (by have := HOL.out; omega)
          clear d1 d2
          go_enter Try.func36, Try.ntmps36
          go_wp2_with (first | (go_at_call 38; (refine (reader_take.calls w0 _ g (x :: r) 1 (by omega) hg HB.out HS.out).mono ?_); rintro e w1 ⟨A1, c1, rfl, p1, p2, p3, p4, p5⟩; rw [HT.out] at p1 p2 p3 ⊢; dsimp only at p1 p2 p3 ⊢; obtain ⟨ad, rfl, hx⟩ := Kd.at_int p1 0 (by omega) (by simp); replace hx := (p4.cell (World.block_lt_of_cell? w0 _ hx)).trans hx; rw [show rd [x] 0 = x from rfl, show Int.toNat 0 = 0 from rfl, Addr.add_zero'] at hx; (have P3 := Aside0.mk p3); (have P4 := Aside0.mk p4); (have P5 := Aside0.mk p5); clear p1 p2 p3 p4 p5))
          go_quiet (fail)
          go_wp2_with (first | (go_at_call 38; (refine (reader_take.calls w0 _ g r mm (by omega) hg (pw_below_drewN P4.out _) (show RdS w0 (w1.drewN _) g r from P3.out)).mono ?_); rintro e w2 ⟨A2, c2, rfl, q1, q2, q3, q4, q5⟩; rw [HT2.out] at q1 q2 q3 ⊢; dsimp only at q1 q2 q3 ⊢; obtain ⟨ad2, rfl, hy2⟩ := Kd.at_int q1 0 (by omega) (by have := HOL.out; have := HM0.out; omega); replace hy2 := (q4.cell (World.block_lt_of_cell? w0 _ hy2)).trans hy2; rw [HY.out, show Int.toNat 0 = 0 from rfl, Addr.add_zero'] at hy2; (have Q1 := Aside0.mk q1); (have Q3 := Aside0.mk q3); (have Q4 := Aside0.mk q4); (have Q5 := Aside0.mk (Kept.transE P5.out q5)); clear q1 q2 q3 q4 q5))
          go_loopw [8, 62] (fun v i wr => ∃ j : Nat, j ≤ o.length ∧ i = .int .i64 j ∧ v = .int .u64 (foldB (o.take j)) ∧ wr = w2) (fun _ i _ => o.length - (intOf i).toNat)
          case atStart => exact ⟨0, Nat.zero_le _, rfl, by rw [List.take_zero]; rfl, rfl⟩
          case round =>
            obtain ⟨j, hj, rfl, rfl, rfl⟩ := hrel
            by_cases hlt : j < o.length
            · obtain ⟨ad3, e3_, hz⟩ := Kd.at_int Q1.out (j : Int) (by omega) (by omega)
              injection e3_ with e3_
              subst e3_
              replace hz := (Q4.out.cell (World.block_lt_of_cell? w0 _ hz)).trans hz
              rw [Int.toNat_natCast] at hz
              have hsucc := foldB_succ o j hlt
              have hzr : 0 ≤ rd o (j : Int) ∧ rd o (j : Int) < 256 := by
                have := HOB.out o[j] (List.getElem_mem hlt)
                simpa [rd, hlt] using this
              have har := foldB_small (o.take j) (fun y hy => HOB.out y (List.mem_of_mem_take hy)) (by rw [List.length_take]; have := HOL.out; have := HM0.out; omega)
              obtain ⟨z, hz2⟩ : ∃ z, rd o (j : Int) = z := ⟨_, rfl⟩
              obtain ⟨a, ha⟩ : ∃ a, foldB (o.take j) = a := ⟨_, rfl⟩
              rw [hz2] at hz hsucc hzr
              rw [ha] at hsucc har
              simp only [ha]
              have hor := or_byte a z har.1 har.2 hzr
              have HSU := Aside0.mk hsucc
              have HOR := Aside0.mk hor
              have hj8 : j < 9223372036854775807 := by have := HOL.out; have := HM0.out; omega
              clear hz2 ha hsucc hzr har hor
              go_wp2
              all_goals first
                | (go_roundw
                   case rel => exact ⟨j + 1, hlt, by go_num, by rw [HOR.out, HSU.out], rfl⟩
                   case measure => simp [intOf]; omega)
                | exact ⟨⟨j + 1, hlt, by go_num, by rw [HOR.out, HSU.out], trivial⟩, by simp [intOf]; omega⟩
            · obtain rfl : j = o.length := by omega
              simp only [List.take_length]
              go_wp2
              go_ret3
              exact ⟨by first | rfl | (rw [E1.out]; rfl) | (simp only [E1.out]; rfl), Q3.out, Q4.out, Q5.out⟩

/-! ### codec_integer: function 37 -/
def codec_integer.f (a0 : Int) : Option (Int) := if (Go.bits .and .u64 a0 1) = 1 then (some (wrap64 (Go.bits .xor .u64 18446744073709551615 (a0 / 2)))) else (some (wrap64 (a0 / 2)))
set_option maxHeartbeats 8000000 in
set_option maxRecDepth 100000 in
theorem codec_integer.calls (a0 : Int) (r : Int) (w : World) (h : codec_integer.f a0 = some r) :
    Calls Try.prog 37 #[.int .u64 a0] w fun e w' => e = .returned (.int .i64 r) ∧ Drawn0 w w' := by
  have H : (if (Go.bits .and .u64 a0 1) = 1 then (some (wrap64 (Go.bits .xor .u64 18446744073709551615 (a0 / 2)))) else (some (wrap64 (a0 / 2)))) = some r := h
  clear h
  by_cases c2 : (Go.bits .and .u64 a0 1) = 1
  · rw [if_pos c2] at H
    have c2b0 : ((Go.bits .and .u64 a0 1) == 1) = true := beq_iff_eq.mpr c2
    have c2b1 : ((Go.bits .and .u64 a0 1) != 1) = false := bne_eq_false_iff_eq.mpr c2
    clear c2
    obtain rfl := Option.some.inj H
    go_enter Try.func37, Try.ntmps37
    go_wp2
    go_ret
    exact ⟨by first | rfl | (simp; done) | (simp [*]; done), by repeat (first | exact Drawn0.refl _ | apply Drawn0.step)⟩
  · rw [if_neg c2] at H
    have c2b0 : ((Go.bits .and .u64 a0 1) == 1) = false := beq_eq_false_iff_ne.mpr c2
    have c2b1 : ((Go.bits .and .u64 a0 1) != 1) = true := bne_iff_ne.mpr c2
    obtain rfl := Option.some.inj H
    go_enter Try.func37, Try.ntmps37
    go_wp2
    go_ret
    exact ⟨by first | rfl | (simp; done) | (simp [*]; done), by repeat (first | exact Drawn0.refl _ | apply Drawn0.step)⟩

/-! ### codec_reader_value: function 34, by hand -/

/-- Four stores into a box. -/
def st4 (W : World) (b : Nat) (v0 v1 v2 v3 : Value) : World := (((W.setCell ⟨b, 0, none⟩ v0).setCell ⟨b, 1, none⟩ v1).setCell ⟨b, 2, none⟩ v2).setCell ⟨b, 3, none⟩ v3
theorem st4_blk {W : World} {b t : Nat} {c0 c1 c2 c3 : Value} (h : W.heap[b]? = some (.cells #[c0, c1, c2, c3] t (0, 0))) (v0 v1 v2 v3 : Value) : (st4 W b v0 v1 v2 v3).heap[b]? = some (.cells #[v0, v1, v2, v3] t (0, 0)) := blk_put (blk_put (blk_put (blk_put h 0 v0 rfl) 1 v1 rfl) 2 v2 rfl) 3 v3 rfl
theorem st4_kept {w W : World} {S : Nat → Prop} {b : Nat} (h : Kept w W S) (hb : S b ∨ w.heap.size ≤ b) (v0 v1 v2 v3 : Value) : Kept w (st4 W b v0 v1 v2 v3) S := (((h.setCell (p := ⟨b, 0, none⟩) hb v0).setCell (p := ⟨b, 1, none⟩) hb v1).setCell (p := ⟨b, 2, none⟩) hb v2).setCell (p := ⟨b, 3, none⟩) hb v3
theorem st4_below {w W : World} {B b : Nat} (h : Below B w W) (hb : B ≤ b) (v0 v1 v2 v3 : Value) : Below B w (st4 W b v0 v1 v2 v3) := (((h.setCell (p := ⟨b, 0, none⟩) hb v0).setCell (p := ⟨b, 1, none⟩) hb v1).setCell (p := ⟨b, 2, none⟩) hb v2).setCell (p := ⟨b, 3, none⟩) hb v3
/-- The end of value: what was stored into the result's box is what comes back. -/
theorem value_end {w W : World} {v0 v1 v2 v3 : Value} {ok : Bool} {tm : Array Value} {R : Ending → World → Prop} (ht : tm[4]? = some (.pointer (some ⟨w.heap.size, 0, none⟩))) (ht5 : tm[5]? = some (.bool ok)) (hb : W.heap[w.heap.size]? = some (.cells #[v0, v1, v2, v3] 29 (0, 0)))
    (h : R (.returned (.tuple #[.agg #[v0, v1, v2, v3], .bool ok])) W) : bodyPost Try.prog Try.f34 R .ret { tmps := tm, defers := [] } W := by
  have g0 : W.cell? ⟨w.heap.size, 0, none⟩ = some v0 := (blk_cell hb 0).trans rfl
  have g1 : W.cell? ⟨w.heap.size, 1, none⟩ = some v1 := (blk_cell hb 1).trans rfl
  have g2 : W.cell? ⟨w.heap.size, 2, none⟩ = some v2 := (blk_cell hb 2).trans rfl
  have g3 : W.cell? ⟨w.heap.size, 3, none⟩ = some v3 := (blk_cell hb 3).trans rfl
  refine bodyPost_ret (v := .tuple #[.agg #[v0, v1, v2, v3], .bool ok]) ?hv rfl h
  case hv =>
    simp [results, Try.f34, go_sem, g0, g1, g2, g3, ht, ht5]
set_option maxHeartbeats 3200000 in
set_option maxRecDepth 100000 in
theorem value_fail0 (w0 w : World) (g : Nat) (l : List Int) (m : Int) (hb : Bytes l) (hg : w0.heap.size ≤ g) (hB : Below w0.heap.size w0 w) (hs : RdS w0 w g l) (kd n : Int) (l1 : List Int) (hh : Aside0 (rheadS l = (kd, n, false, l1))) :
    Calls Try.prog 34 #[.pointer (some ⟨g, 0, none⟩), .int .i64 m] w fun e w' => ∃ v, e = .returned (.tuple #[.agg #[.int .i64 0, .int .i64 0, .string ⟨#[]⟩, v], .bool false]) ∧ Kd.R k29 29 w' w.heap.size (fun k => w.heap.size ≤ k) v [] ∧ RdS w0 w' g l1 ∧ Below w0.heap.size w0 w' ∧ Kept w w' (fun k => k = g) := by
  have HS := Aside0.mk hs
  have HB := Aside0.mk hB
  have hgl : g < w.heap.size := by obtain ⟨A, c, h, _⟩ := hs; exact blk_lt h
  have HGL := Aside0.mk hgl
  clear hs hB hgl
  have HK0 := Aside0.mk ((Kept.refl w (fun k => k = g)).alloc (.cells #[.int .i64 0, .int .i64 0, .string ⟨#[]⟩, .slice none 0 0] 29))
  have HB0 := Aside0.mk (HB.out.alloc HB.out.size (.cells #[.int .i64 0, .int .i64 0, .string ⟨#[]⟩, .slice none 0 0] 29))
  have HS0 : Aside0 (RdS w0 (w.alloc (.cells #[.int .i64 0, .int .i64 0, .string ⟨#[]⟩, .slice none 0 0] 29)) g l) := ⟨by obtain ⟨A, c, h, h2⟩ := HS.out; exact ⟨A, c, blk_alloc h _, h2⟩⟩
  go_enter Try.func34, Try.ntmps34
  go_wp2_with (first | (go_at_call 36; (refine (reader_head.calls w0 _ g l hb hg HB0.out HS0.out).mono ?_); rintro e w1 ⟨rfl, p3, p4, p5⟩; rw [hh.out] at p3 ⊢; dsimp only at p3 ⊢; (have P3 := Aside0.mk p3); (have P4 := Aside0.mk p4); (have P5 := Aside0.mk p5); clear p3 p4 p5; (have B4 := Aside0.mk (blk_kept (blk_new w _) P5.out (fun e_ => Nat.ne_of_gt HGL.out e_))); (have hc0 : w1.cell? ⟨w.heap.size, 0, none⟩ = some (.int .i64 0) := (blk_cell B4.out 0).trans rfl); (have hc1 : w1.cell? ⟨w.heap.size, 1, none⟩ = some (.int .i64 0) := (blk_cell B4.out 1).trans rfl); (have hc2 : w1.cell? ⟨w.heap.size, 2, none⟩ = some (.string ⟨#[]⟩) := (blk_cell B4.out 2).trans rfl); (have hc3 : w1.cell? ⟨w.heap.size, 3, none⟩ = some (.slice none 0 0) := (blk_cell B4.out 3).trans rfl); (have hf0 := blk_frozen B4.out 0); (have hf1 := blk_frozen B4.out 1); (have hf2 := blk_frozen B4.out 2); (have hf3 := blk_frozen B4.out 3)))
  refine value_end (w := w) (ok := false) ?_ ?_ (st4_blk B4.out (.int .i64 0) (.int .i64 0) (.string ⟨#[]⟩) (.slice none 0 0)) ?_
  · rfl
  · rfl
  exact ⟨.slice none 0 0, rfl, Kd.R_nil _ _ _ _ _, RdS.kept P3.out (st4_kept (Kept.refl w1 (fun k => k = w.heap.size)) (.inl rfl) _ _ _ _) (fun e_ => Nat.ne_of_lt HGL.out e_), st4_below P4.out HB.out.size _ _ _ _, st4_kept (Kept.transE HK0.out P5.out) (.inr (Nat.le_refl _)) _ _ _ _⟩
set_option maxHeartbeats 3200000 in
set_option maxRecDepth 100000 in
theorem value_fail1 (w0 w : World) (g : Nat) (l : List Int) (m : Int) (hb : Bytes l) (hg : w0.heap.size ≤ g) (hB : Below w0.heap.size w0 w) (hs : RdS w0 w g l) (kd n : Int) (l1 : List Int) (hh : Aside0 (rheadS l = (kd, n, true, l1))) (hm : m = 0) :
    Calls Try.prog 34 #[.pointer (some ⟨g, 0, none⟩), .int .i64 m] w fun e w' => ∃ v, e = .returned (.tuple #[.agg #[.int .i64 0, .int .i64 0, .string ⟨#[]⟩, v], .bool false]) ∧ Kd.R k29 29 w' w.heap.size (fun k => w.heap.size ≤ k) v [] ∧ RdS w0 w' g l1 ∧ Below w0.heap.size w0 w' ∧ Kept w w' (fun k => k = g) := by
  have HS := Aside0.mk hs
  have HB := Aside0.mk hB
  have hgl : g < w.heap.size := by obtain ⟨A, c, h, _⟩ := hs; exact blk_lt h
  have HGL := Aside0.mk hgl
  clear hs hB hgl
  have HK0 := Aside0.mk ((Kept.refl w (fun k => k = g)).alloc (.cells #[.int .i64 0, .int .i64 0, .string ⟨#[]⟩, .slice none 0 0] 29))
  have HB0 := Aside0.mk (HB.out.alloc HB.out.size (.cells #[.int .i64 0, .int .i64 0, .string ⟨#[]⟩, .slice none 0 0] 29))
  have HS0 : Aside0 (RdS w0 (w.alloc (.cells #[.int .i64 0, .int .i64 0, .string ⟨#[]⟩, .slice none 0 0] 29)) g l) := ⟨by obtain ⟨A, c, h, h2⟩ := HS.out; exact ⟨A, c, blk_alloc h _, h2⟩⟩
  subst hm
  go_enter Try.func34, Try.ntmps34
  go_wp2_with (first | (go_at_call 36; (refine (reader_head.calls w0 _ g l hb hg HB0.out HS0.out).mono ?_); rintro e w1 ⟨rfl, p3, p4, p5⟩; rw [hh.out] at p3 ⊢; dsimp only at p3 ⊢; (have P3 := Aside0.mk p3); (have P4 := Aside0.mk p4); (have P5 := Aside0.mk p5); clear p3 p4 p5; (have B4 := Aside0.mk (blk_kept (blk_new w _) P5.out (fun e_ => Nat.ne_of_gt HGL.out e_))); (have hc0 : w1.cell? ⟨w.heap.size, 0, none⟩ = some (.int .i64 0) := (blk_cell B4.out 0).trans rfl); (have hc1 : w1.cell? ⟨w.heap.size, 1, none⟩ = some (.int .i64 0) := (blk_cell B4.out 1).trans rfl); (have hc2 : w1.cell? ⟨w.heap.size, 2, none⟩ = some (.string ⟨#[]⟩) := (blk_cell B4.out 2).trans rfl); (have hc3 : w1.cell? ⟨w.heap.size, 3, none⟩ = some (.slice none 0 0) := (blk_cell B4.out 3).trans rfl); (have hf0 := blk_frozen B4.out 0); (have hf1 := blk_frozen B4.out 1); (have hf2 := blk_frozen B4.out 2); (have hf3 := blk_frozen B4.out 3)))
  refine value_end (w := w) (ok := false) ?_ ?_ (st4_blk B4.out (.int .i64 0) (.int .i64 0) (.string ⟨#[]⟩) (.slice none 0 0)) ?_
  · rfl
  · rfl
  exact ⟨.slice none 0 0, rfl, Kd.R_nil _ _ _ _ _, RdS.kept P3.out (st4_kept (Kept.refl w1 (fun k => k = w.heap.size)) (.inl rfl) _ _ _ _) (fun e_ => Nat.ne_of_lt HGL.out e_), st4_below P4.out HB.out.size _ _ _ _, st4_kept (Kept.transE HK0.out P5.out) (.inr (Nat.le_refl _)) _ _ _ _⟩
set_option maxHeartbeats 3200000 in
set_option maxRecDepth 100000 in
theorem value_int (w0 w : World) (g : Nat) (l : List Int) (m : Int) (hb : Bytes l) (hg : w0.heap.size ≤ g) (hB : Below w0.heap.size w0 w) (hs : RdS w0 w g l) (n : Int) (l1 : List Int) (i : Int) (hh : Aside0 (rheadS l = (1, n, true, l1))) (hm : ¬ m = 0) (hi : Aside0 (codec_integer.f n = some i)) :
    Calls Try.prog 34 #[.pointer (some ⟨g, 0, none⟩), .int .i64 m] w fun e w' => ∃ v, (e = .returned (.tuple #[.agg #[.int .i64 1, .int .i64 i, .string ⟨#[]⟩, v], .bool true]) ∧ v = .slice none 0 0) ∧ Kd.R k29 29 w' w.heap.size (fun k => w.heap.size ≤ k) v [] ∧ RdS w0 w' g l1 ∧ Below w0.heap.size w0 w' ∧ Kept w w' (fun k => k = g) := by
  have HS := Aside0.mk hs
  have HB := Aside0.mk hB
  have hgl : g < w.heap.size := by obtain ⟨A, c, h, _⟩ := hs; exact blk_lt h
  have HGL := Aside0.mk hgl
  clear hs hB hgl
  have HK0 := Aside0.mk ((Kept.refl w (fun k => k = g)).alloc (.cells #[.int .i64 0, .int .i64 0, .string ⟨#[]⟩, .slice none 0 0] 29))
  have HB0 := Aside0.mk (HB.out.alloc HB.out.size (.cells #[.int .i64 0, .int .i64 0, .string ⟨#[]⟩, .slice none 0 0] 29))
  have HS0 : Aside0 (RdS w0 (w.alloc (.cells #[.int .i64 0, .int .i64 0, .string ⟨#[]⟩, .slice none 0 0] 29)) g l) := ⟨by obtain ⟨A, c, h, h2⟩ := HS.out; exact ⟨A, c, blk_alloc h _, h2⟩⟩
  have b0 : (m == 0) = false := beq_eq_false_iff_ne.2 hm
  clear hm
  go_enter Try.func34, Try.ntmps34
  go_wp2_with (first | (go_at_call 36; (refine (reader_head.calls w0 _ g l hb hg HB0.out HS0.out).mono ?_); rintro e w1 ⟨rfl, p3, p4, p5⟩; rw [hh.out] at p3 ⊢; dsimp only at p3 ⊢; (have P3 := Aside0.mk p3); (have P4 := Aside0.mk p4); (have P5 := Aside0.mk p5); clear p3 p4 p5; (have B4 := Aside0.mk (blk_kept (blk_new w _) P5.out (fun e_ => Nat.ne_of_gt HGL.out e_))); (have hc0 : w1.cell? ⟨w.heap.size, 0, none⟩ = some (.int .i64 0) := (blk_cell B4.out 0).trans rfl); (have hc1 : w1.cell? ⟨w.heap.size, 1, none⟩ = some (.int .i64 0) := (blk_cell B4.out 1).trans rfl); (have hc2 : w1.cell? ⟨w.heap.size, 2, none⟩ = some (.string ⟨#[]⟩) := (blk_cell B4.out 2).trans rfl); (have hc3 : w1.cell? ⟨w.heap.size, 3, none⟩ = some (.slice none 0 0) := (blk_cell B4.out 3).trans rfl); (have hf0 := blk_frozen B4.out 0); (have hf1 := blk_frozen B4.out 1); (have hf2 := blk_frozen B4.out 2); (have hf3 := blk_frozen B4.out 3)) | (go_at_call 37; (refine (codec_integer.calls n i _ hi.out).mono ?_); rintro e w2 ⟨rfl, ⟨nd, rfl⟩⟩; (have B9 := Aside0.mk (blk_drewN (blk_new w1 (.cells #[.int .i64 1, .int .i64 0, .string ⟨#[]⟩, .slice none 0 0] 29)) nd)); (have B4' := Aside0.mk (blk_drewN (blk_alloc B4.out (.cells #[.int .i64 1, .int .i64 0, .string ⟨#[]⟩, .slice none 0 0] 29)) nd)); (have S' : Aside0 (RdS w0 ((w1.alloc (.cells #[.int .i64 1, .int .i64 0, .string ⟨#[]⟩, .slice none 0 0] 29)).drewN nd) g l1) := ⟨by obtain ⟨A, c, h, h2⟩ := P3.out; exact ⟨A, c, blk_alloc h _, h2⟩⟩); (have L' := Aside0.mk (pw_below_drewN (P4.out.alloc P4.out.size (.cells #[.int .i64 1, .int .i64 0, .string ⟨#[]⟩, .slice none 0 0] 29)) nd)); (have K' := Aside0.mk (((Kept.transE HK0.out P5.out).alloc (.cells #[.int .i64 1, .int .i64 0, .string ⟨#[]⟩, .slice none 0 0] 29)).drewN nd)); (have N49 := Aside0.mk (Nat.ne_of_lt (blk_lt B4.out))); (have hsz := Aside0.mk (show w.heap.size ≤ w1.heap.size from Nat.le_of_lt (blk_lt B4.out))); clear hc0 hc1 hc2 hc3 hf0 hf1 hf2 hf3; generalize hb9 : w1.heap.size = b9 at B9 N49 hsz ⊢; generalize (w1.alloc (.cells #[.int .i64 1, .int .i64 0, .string ⟨#[]⟩, .slice none 0 0] 29)).drewN nd = W2 at B9 B4' S' L' K' ⊢; clear hb9; (have hc0 : W2.cell? ⟨w.heap.size, 0, none⟩ = some (.int .i64 0) := (blk_cell B4'.out 0).trans rfl); (have hc1 : W2.cell? ⟨w.heap.size, 1, none⟩ = some (.int .i64 0) := (blk_cell B4'.out 1).trans rfl); (have hc2 : W2.cell? ⟨w.heap.size, 2, none⟩ = some (.string ⟨#[]⟩) := (blk_cell B4'.out 2).trans rfl); (have hc3 : W2.cell? ⟨w.heap.size, 3, none⟩ = some (.slice none 0 0) := (blk_cell B4'.out 3).trans rfl); (have hf0 := blk_frozen B4'.out 0); (have hf1 := blk_frozen B4'.out 1); (have hf2 := blk_frozen B4'.out 2); (have hf3 := blk_frozen B4'.out 3); (have hd0 : W2.cell? ⟨b9, 0, none⟩ = some (.int .i64 1) := (blk_cell B9.out 0).trans rfl); (have hd1 : W2.cell? ⟨b9, 1, none⟩ = some (.int .i64 0) := (blk_cell B9.out 1).trans rfl); (have hd2 : W2.cell? ⟨b9, 2, none⟩ = some (.string ⟨#[]⟩) := (blk_cell B9.out 2).trans rfl); (have hd3 : W2.cell? ⟨b9, 3, none⟩ = some (.slice none 0 0) := (blk_cell B9.out 3).trans rfl); (have hg1 := blk_frozen B9.out 1); (have hn1 := N49.out); (have hn2 := N49.out.symm)))
  have B4s := blk_far B4'.out (p := ⟨b9, 1, none⟩) N49.out (.int .i64 i)
  refine value_end (w := w) (ok := true) ?_ ?_ (st4_blk B4s (.int .i64 1) (.int .i64 i) (.string ⟨#[]⟩) (.slice none 0 0)) ?_
  · rfl
  · rfl
  exact ⟨.slice none 0 0, ⟨rfl, rfl⟩, Kd.R_nil _ _ _ _ _, RdS.kept S'.out (st4_kept ((Kept.refl W2 (fun k => k = w.heap.size ∨ k = b9)).setCell (p := ⟨b9, 1, none⟩) (.inl (.inr rfl)) _) (.inl (.inl rfl)) _ _ _ _) (fun e_ => by have := HGL.out; have := hsz.out; rcases e_ with e_ | e_ <;> omega), st4_below (L'.out.setCell (p := ⟨b9, 1, none⟩) (Nat.le_trans HB.out.size hsz.out) _) HB.out.size _ _ _ _, st4_kept (K'.out.setCell (p := ⟨b9, 1, none⟩) (.inr hsz.out) _) (.inr (Nat.le_refl _)) _ _ _ _⟩
set_option maxHeartbeats 3200000 in
set_option maxRecDepth 100000 in
theorem value_fail2 (w0 w : World) (g : Nat) (l : List Int) (m : Int) (hb : Bytes l) (hg : w0.heap.size ≤ g) (hB : Below w0.heap.size w0 w) (hs : RdS w0 w g l) (kd n : Int) (l1 : List Int) (hh : Aside0 (rheadS l = (kd, n, true, l1))) (hm : ¬ m = 0) (k1 : ¬ kd = 1) (k2 : ¬ kd = 2) (k3 : ¬ kd = 3) :
    Calls Try.prog 34 #[.pointer (some ⟨g, 0, none⟩), .int .i64 m] w fun e w' => ∃ v, e = .returned (.tuple #[.agg #[.int .i64 0, .int .i64 0, .string ⟨#[]⟩, v], .bool false]) ∧ Kd.R k29 29 w' w.heap.size (fun k => w.heap.size ≤ k) v [] ∧ RdS w0 w' g l1 ∧ Below w0.heap.size w0 w' ∧ Kept w w' (fun k => k = g) := by
  have HS := Aside0.mk hs
  have HB := Aside0.mk hB
  have hgl : g < w.heap.size := by obtain ⟨A, c, h, _⟩ := hs; exact blk_lt h
  have HGL := Aside0.mk hgl
  clear hs hB hgl
  have HK0 := Aside0.mk ((Kept.refl w (fun k => k = g)).alloc (.cells #[.int .i64 0, .int .i64 0, .string ⟨#[]⟩, .slice none 0 0] 29))
  have HB0 := Aside0.mk (HB.out.alloc HB.out.size (.cells #[.int .i64 0, .int .i64 0, .string ⟨#[]⟩, .slice none 0 0] 29))
  have HS0 : Aside0 (RdS w0 (w.alloc (.cells #[.int .i64 0, .int .i64 0, .string ⟨#[]⟩, .slice none 0 0] 29)) g l) := ⟨by obtain ⟨A, c, h, h2⟩ := HS.out; exact ⟨A, c, blk_alloc h _, h2⟩⟩
  have b0 : (m == 0) = false := beq_eq_false_iff_ne.2 hm
  have b1 : (kd == 1) = false := beq_eq_false_iff_ne.2 k1
  have b2 : (kd == 2) = false := beq_eq_false_iff_ne.2 k2
  have b3 : (kd == 3) = false := beq_eq_false_iff_ne.2 k3
  clear hm k1 k2 k3
  go_enter Try.func34, Try.ntmps34
  go_wp2_with (first | (go_at_call 36; (refine (reader_head.calls w0 _ g l hb hg HB0.out HS0.out).mono ?_); rintro e w1 ⟨rfl, p3, p4, p5⟩; rw [hh.out] at p3 ⊢; dsimp only at p3 ⊢; (have P3 := Aside0.mk p3); (have P4 := Aside0.mk p4); (have P5 := Aside0.mk p5); clear p3 p4 p5; (have B4 := Aside0.mk (blk_kept (blk_new w _) P5.out (fun e_ => Nat.ne_of_gt HGL.out e_))); (have hc0 : w1.cell? ⟨w.heap.size, 0, none⟩ = some (.int .i64 0) := (blk_cell B4.out 0).trans rfl); (have hc1 : w1.cell? ⟨w.heap.size, 1, none⟩ = some (.int .i64 0) := (blk_cell B4.out 1).trans rfl); (have hc2 : w1.cell? ⟨w.heap.size, 2, none⟩ = some (.string ⟨#[]⟩) := (blk_cell B4.out 2).trans rfl); (have hc3 : w1.cell? ⟨w.heap.size, 3, none⟩ = some (.slice none 0 0) := (blk_cell B4.out 3).trans rfl); (have hf0 := blk_frozen B4.out 0); (have hf1 := blk_frozen B4.out 1); (have hf2 := blk_frozen B4.out 2); (have hf3 := blk_frozen B4.out 3); (have BY := Aside0.mk (blk_alloc B4.out (.cells #[.int .i64 kd, .int .i64 0, .string ⟨#[]⟩, .slice none 0 0] 29))); (have hy0 : (w1.alloc (.cells #[.int .i64 kd, .int .i64 0, .string ⟨#[]⟩, .slice none 0 0] 29)).cell? ⟨w.heap.size, 0, none⟩ = some (.int .i64 0) := (blk_cell BY.out 0).trans rfl); (have hy1 : (w1.alloc (.cells #[.int .i64 kd, .int .i64 0, .string ⟨#[]⟩, .slice none 0 0] 29)).cell? ⟨w.heap.size, 1, none⟩ = some (.int .i64 0) := (blk_cell BY.out 1).trans rfl); (have hy2 : (w1.alloc (.cells #[.int .i64 kd, .int .i64 0, .string ⟨#[]⟩, .slice none 0 0] 29)).cell? ⟨w.heap.size, 2, none⟩ = some (.string ⟨#[]⟩) := (blk_cell BY.out 2).trans rfl); (have hy3 : (w1.alloc (.cells #[.int .i64 kd, .int .i64 0, .string ⟨#[]⟩, .slice none 0 0] 29)).cell? ⟨w.heap.size, 3, none⟩ = some (.slice none 0 0) := (blk_cell BY.out 3).trans rfl); (have hyf0 := blk_frozen BY.out 0); (have hyf1 := blk_frozen BY.out 1); (have hyf2 := blk_frozen BY.out 2); (have hyf3 := blk_frozen BY.out 3)))
  refine value_end (w := w) (ok := false) ?_ ?_ (st4_blk (blk_alloc B4.out (.cells #[.int .i64 kd, .int .i64 0, .string ⟨#[]⟩, .slice none 0 0] 29)) (.int .i64 0) (.int .i64 0) (.string ⟨#[]⟩) (.slice none 0 0)) ?_
  · rfl
  · rfl
  exact ⟨.slice none 0 0, rfl, Kd.R_nil _ _ _ _ _, RdS.kept P3.out (st4_kept ((Kept.refl w1 (fun k => k = w.heap.size)).alloc _) (.inl rfl) _ _ _ _) (fun e_ => Nat.ne_of_lt HGL.out e_), st4_below (P4.out.alloc P4.out.size _) HB.out.size _ _ _ _, st4_kept ((Kept.transE HK0.out P5.out).alloc _) (.inr (Nat.le_refl _)) _ _ _ _⟩
set_option maxHeartbeats 3200000 in
set_option maxRecDepth 100000 in
theorem value_text0 (w0 w : World) (g : Nat) (l : List Int) (m : Int) (hb : Bytes l) (hg : w0.heap.size ≤ g) (hB : Below w0.heap.size w0 w) (hs : RdS w0 w g l) (n : Int) (l1 o l2 : List Int) (hn0 : 0 ≤ n) (hh : Aside0 (rheadS l = (2, n, true, l1))) (hm : ¬ m = 0) (ht : Aside0 (takeS n l1 = (o, false, l2))) :
    Calls Try.prog 34 #[.pointer (some ⟨g, 0, none⟩), .int .i64 m] w fun e w' => ∃ v, e = .returned (.tuple #[.agg #[.int .i64 0, .int .i64 0, .string ⟨#[]⟩, v], .bool false]) ∧ Kd.R k29 29 w' w.heap.size (fun k => w.heap.size ≤ k) v [] ∧ RdS w0 w' g l2 ∧ Below w0.heap.size w0 w' ∧ Kept w w' (fun k => k = g) := by
  have HS := Aside0.mk hs
  have HB := Aside0.mk hB
  have hgl : g < w.heap.size := by obtain ⟨A, c, h, _⟩ := hs; exact blk_lt h
  have HGL := Aside0.mk hgl
  clear hs hB hgl
  have HK0 := Aside0.mk ((Kept.refl w (fun k => k = g)).alloc (.cells #[.int .i64 0, .int .i64 0, .string ⟨#[]⟩, .slice none 0 0] 29))
  have HB0 := Aside0.mk (HB.out.alloc HB.out.size (.cells #[.int .i64 0, .int .i64 0, .string ⟨#[]⟩, .slice none 0 0] 29))
  have HS0 : Aside0 (RdS w0 (w.alloc (.cells #[.int .i64 0, .int .i64 0, .string ⟨#[]⟩, .slice none 0 0] 29)) g l) := ⟨by obtain ⟨A, c, h, h2⟩ := HS.out; exact ⟨A, c, blk_alloc h _, h2⟩⟩
  have b0 : (m == 0) = false := beq_eq_false_iff_ne.2 hm
  clear hm
  go_enter Try.func34, Try.ntmps34
  go_wp2_with (first | (go_at_call 36; (refine (reader_head.calls w0 _ g l hb hg HB0.out HS0.out).mono ?_); rintro e w1 ⟨rfl, p3, p4, p5⟩; rw [hh.out] at p3 ⊢; dsimp only at p3 ⊢; (have P3 := Aside0.mk p3); (have P4 := Aside0.mk p4); (have P5 := Aside0.mk p5); clear p3 p4 p5; (have B4 := Aside0.mk (blk_kept (blk_new w _) P5.out (fun e_ => Nat.ne_of_gt HGL.out e_))); (have hc0 : w1.cell? ⟨w.heap.size, 0, none⟩ = some (.int .i64 0) := (blk_cell B4.out 0).trans rfl); (have hc1 : w1.cell? ⟨w.heap.size, 1, none⟩ = some (.int .i64 0) := (blk_cell B4.out 1).trans rfl); (have hc2 : w1.cell? ⟨w.heap.size, 2, none⟩ = some (.string ⟨#[]⟩) := (blk_cell B4.out 2).trans rfl); (have hc3 : w1.cell? ⟨w.heap.size, 3, none⟩ = some (.slice none 0 0) := (blk_cell B4.out 3).trans rfl); (have hf0 := blk_frozen B4.out 0); (have hf1 := blk_frozen B4.out 1); (have hf2 := blk_frozen B4.out 2); (have hf3 := blk_frozen B4.out 3); (have BY := Aside0.mk (blk_alloc B4.out (.cells #[.int .i64 2, .int .i64 0, .string ⟨#[]⟩, .slice none 0 0] 29))); (have hy0 : (w1.alloc (.cells #[.int .i64 2, .int .i64 0, .string ⟨#[]⟩, .slice none 0 0] 29)).cell? ⟨w.heap.size, 0, none⟩ = some (.int .i64 0) := (blk_cell BY.out 0).trans rfl); (have hy1 : (w1.alloc (.cells #[.int .i64 2, .int .i64 0, .string ⟨#[]⟩, .slice none 0 0] 29)).cell? ⟨w.heap.size, 1, none⟩ = some (.int .i64 0) := (blk_cell BY.out 1).trans rfl); (have hy2 : (w1.alloc (.cells #[.int .i64 2, .int .i64 0, .string ⟨#[]⟩, .slice none 0 0] 29)).cell? ⟨w.heap.size, 2, none⟩ = some (.string ⟨#[]⟩) := (blk_cell BY.out 2).trans rfl); (have hy3 : (w1.alloc (.cells #[.int .i64 2, .int .i64 0, .string ⟨#[]⟩, .slice none 0 0] 29)).cell? ⟨w.heap.size, 3, none⟩ = some (.slice none 0 0) := (blk_cell BY.out 3).trans rfl); (have hyf0 := blk_frozen BY.out 0); (have hyf1 := blk_frozen BY.out 1); (have hyf2 := blk_frozen BY.out 2); (have hyf3 := blk_frozen BY.out 3)) | (go_at_call 38; (refine (reader_take.calls w0 _ g l1 n hn0 hg (P4.out.alloc P4.out.size (.cells #[.int .i64 2, .int .i64 0, .string ⟨#[]⟩, .slice none 0 0] 29)) (by obtain ⟨A, c, h, h2⟩ := P3.out; exact ⟨A, c, blk_alloc h _, h2⟩)).mono ?_); rintro e w3 ⟨A5, c5, rfl, q1, q2, q3, q4, q5⟩; rw [ht.out] at q1 q2 q3 ⊢; dsimp only at q1 q2 q3 ⊢; (have Q3 := Aside0.mk q3); (have Q4 := Aside0.mk q4); (have N49 := Aside0.mk (Nat.ne_of_lt (blk_lt B4.out))); (have hsz := Aside0.mk (show w.heap.size ≤ w1.heap.size from Nat.le_of_lt (blk_lt B4.out))); (have B9 := Aside0.mk (blk_kept (blk_new w1 (.cells #[.int .i64 2, .int .i64 0, .string ⟨#[]⟩, .slice none 0 0] 29)) q5 (fun e_ => by have := HGL.out; have := hsz.out; omega))); (have B4' := Aside0.mk (blk_kept (blk_alloc B4.out (.cells #[.int .i64 2, .int .i64 0, .string ⟨#[]⟩, .slice none 0 0] 29)) q5 (fun e_ => Nat.ne_of_gt HGL.out e_))); (have K' := Aside0.mk (Kept.transE (Kept.transE HK0.out P5.out |>.alloc (.cells #[.int .i64 2, .int .i64 0, .string ⟨#[]⟩, .slice none 0 0] 29)) q5)); clear hy0 hy1 hy2 hy3 hyf0 hyf1 hyf2 hyf3 hc0 hc1 hc2 hc3 hf0 hf1 hf2 hf3; generalize w1.heap.size = b9 at B9 N49 hsz ⊢; (have hc0 : w3.cell? ⟨w.heap.size, 0, none⟩ = some (.int .i64 0) := (blk_cell B4'.out 0).trans rfl); (have hc1 : w3.cell? ⟨w.heap.size, 1, none⟩ = some (.int .i64 0) := (blk_cell B4'.out 1).trans rfl); (have hc2 : w3.cell? ⟨w.heap.size, 2, none⟩ = some (.string ⟨#[]⟩) := (blk_cell B4'.out 2).trans rfl); (have hc3 : w3.cell? ⟨w.heap.size, 3, none⟩ = some (.slice none 0 0) := (blk_cell B4'.out 3).trans rfl); (have hf0 := blk_frozen B4'.out 0); (have hf1 := blk_frozen B4'.out 1); (have hf2 := blk_frozen B4'.out 2); (have hf3 := blk_frozen B4'.out 3); (have hd0 : w3.cell? ⟨b9, 0, none⟩ = some (.int .i64 2) := (blk_cell B9.out 0).trans rfl); (have hd1 : w3.cell? ⟨b9, 1, none⟩ = some (.int .i64 0) := (blk_cell B9.out 1).trans rfl); (have hd2 : w3.cell? ⟨b9, 2, none⟩ = some (.string ⟨#[]⟩) := (blk_cell B9.out 2).trans rfl); (have hd3 : w3.cell? ⟨b9, 3, none⟩ = some (.slice none 0 0) := (blk_cell B9.out 3).trans rfl); (have hg2 := blk_frozen B9.out 2); (have hn1 := N49.out); (have hn2 := N49.out.symm)))
  refine value_end (w := w) (ok := false) ?_ ?_ (st4_blk B4'.out (.int .i64 0) (.int .i64 0) (.string ⟨#[]⟩) (.slice none 0 0)) ?_
  · rfl
  · rfl
  exact ⟨.slice none 0 0, rfl, Kd.R_nil _ _ _ _ _, RdS.kept Q3.out (st4_kept (Kept.refl w3 (fun k => k = w.heap.size)) (.inl rfl) _ _ _ _) (fun e_ => Nat.ne_of_lt HGL.out e_), st4_below Q4.out HB.out.size _ _ _ _, st4_kept K'.out (.inr (Nat.le_refl _)) _ _ _ _⟩
set_option maxHeartbeats 3200000 in
set_option maxRecDepth 100000 in
theorem value_text1 (w0 w : World) (g : Nat) (l : List Int) (m : Int) (hb : Bytes l) (hg : w0.heap.size ≤ g) (hB : Below w0.heap.size w0 w) (hs : RdS w0 w g l) (n : Int) (l1 o l2 : List Int) (hn0 : 0 ≤ n) (hh : Aside0 (rheadS l = (2, n, true, l1))) (hm : ¬ m = 0) (ht : Aside0 (takeS n l1 = (o, true, l2))) :
    Calls Try.prog 34 #[.pointer (some ⟨g, 0, none⟩), .int .i64 m] w fun e w' => ∃ v, e = .returned (.tuple #[.agg #[.int .i64 2, .int .i64 0, .string (strOfNums o), v], .bool true]) ∧ Kd.R k29 29 w' w.heap.size (fun k => w.heap.size ≤ k) v [] ∧ RdS w0 w' g l2 ∧ Below w0.heap.size w0 w' ∧ Kept w w' (fun k => k = g) := by
  have HS := Aside0.mk hs
  have HB := Aside0.mk hB
  have hgl : g < w.heap.size := by obtain ⟨A, c, h, _⟩ := hs; exact blk_lt h
  have HGL := Aside0.mk hgl
  clear hs hB hgl
  have HK0 := Aside0.mk ((Kept.refl w (fun k => k = g)).alloc (.cells #[.int .i64 0, .int .i64 0, .string ⟨#[]⟩, .slice none 0 0] 29))
  have HB0 := Aside0.mk (HB.out.alloc HB.out.size (.cells #[.int .i64 0, .int .i64 0, .string ⟨#[]⟩, .slice none 0 0] 29))
  have HS0 : Aside0 (RdS w0 (w.alloc (.cells #[.int .i64 0, .int .i64 0, .string ⟨#[]⟩, .slice none 0 0] 29)) g l) := ⟨by obtain ⟨A, c, h, h2⟩ := HS.out; exact ⟨A, c, blk_alloc h _, h2⟩⟩
  have b0 : (m == 0) = false := beq_eq_false_iff_ne.2 hm
  clear hm
  go_enter Try.func34, Try.ntmps34
  go_wp2_with (first | (go_at_call 36; (refine (reader_head.calls w0 _ g l hb hg HB0.out HS0.out).mono ?_); rintro e w1 ⟨rfl, p3, p4, p5⟩; rw [hh.out] at p3 ⊢; dsimp only at p3 ⊢; (have P3 := Aside0.mk p3); (have P4 := Aside0.mk p4); (have P5 := Aside0.mk p5); clear p3 p4 p5; (have B4 := Aside0.mk (blk_kept (blk_new w _) P5.out (fun e_ => Nat.ne_of_gt HGL.out e_))); (have hc0 : w1.cell? ⟨w.heap.size, 0, none⟩ = some (.int .i64 0) := (blk_cell B4.out 0).trans rfl); (have hc1 : w1.cell? ⟨w.heap.size, 1, none⟩ = some (.int .i64 0) := (blk_cell B4.out 1).trans rfl); (have hc2 : w1.cell? ⟨w.heap.size, 2, none⟩ = some (.string ⟨#[]⟩) := (blk_cell B4.out 2).trans rfl); (have hc3 : w1.cell? ⟨w.heap.size, 3, none⟩ = some (.slice none 0 0) := (blk_cell B4.out 3).trans rfl); (have hf0 := blk_frozen B4.out 0); (have hf1 := blk_frozen B4.out 1); (have hf2 := blk_frozen B4.out 2); (have hf3 := blk_frozen B4.out 3); (have BY := Aside0.mk (blk_alloc B4.out (.cells #[.int .i64 2, .int .i64 0, .string ⟨#[]⟩, .slice none 0 0] 29))); (have hy0 : (w1.alloc (.cells #[.int .i64 2, .int .i64 0, .string ⟨#[]⟩, .slice none 0 0] 29)).cell? ⟨w.heap.size, 0, none⟩ = some (.int .i64 0) := (blk_cell BY.out 0).trans rfl); (have hy1 : (w1.alloc (.cells #[.int .i64 2, .int .i64 0, .string ⟨#[]⟩, .slice none 0 0] 29)).cell? ⟨w.heap.size, 1, none⟩ = some (.int .i64 0) := (blk_cell BY.out 1).trans rfl); (have hy2 : (w1.alloc (.cells #[.int .i64 2, .int .i64 0, .string ⟨#[]⟩, .slice none 0 0] 29)).cell? ⟨w.heap.size, 2, none⟩ = some (.string ⟨#[]⟩) := (blk_cell BY.out 2).trans rfl); (have hy3 : (w1.alloc (.cells #[.int .i64 2, .int .i64 0, .string ⟨#[]⟩, .slice none 0 0] 29)).cell? ⟨w.heap.size, 3, none⟩ = some (.slice none 0 0) := (blk_cell BY.out 3).trans rfl); (have hyf0 := blk_frozen BY.out 0); (have hyf1 := blk_frozen BY.out 1); (have hyf2 := blk_frozen BY.out 2); (have hyf3 := blk_frozen BY.out 3)) | (go_at_call 38; (refine (reader_take.calls w0 _ g l1 n hn0 hg (P4.out.alloc P4.out.size (.cells #[.int .i64 2, .int .i64 0, .string ⟨#[]⟩, .slice none 0 0] 29)) (by obtain ⟨A, c, h, h2⟩ := P3.out; exact ⟨A, c, blk_alloc h _, h2⟩)).mono ?_); rintro e w3 ⟨A5, c5, rfl, q1, q2, q3, q4, q5⟩; rw [ht.out] at q1 q2 q3 ⊢; dsimp only at q1 q2 q3 ⊢; (have Q3 := Aside0.mk q3); (have Q4 := Aside0.mk q4); (have N49 := Aside0.mk (Nat.ne_of_lt (blk_lt B4.out))); (have hsz := Aside0.mk (show w.heap.size ≤ w1.heap.size from Nat.le_of_lt (blk_lt B4.out))); (have B9 := Aside0.mk (blk_kept (blk_new w1 (.cells #[.int .i64 2, .int .i64 0, .string ⟨#[]⟩, .slice none 0 0] 29)) q5 (fun e_ => by have := HGL.out; have := hsz.out; omega))); (have B4' := Aside0.mk (blk_kept (blk_alloc B4.out (.cells #[.int .i64 2, .int .i64 0, .string ⟨#[]⟩, .slice none 0 0] 29)) q5 (fun e_ => Nat.ne_of_gt HGL.out e_))); (have K' := Aside0.mk (Kept.transE (Kept.transE HK0.out P5.out |>.alloc (.cells #[.int .i64 2, .int .i64 0, .string ⟨#[]⟩, .slice none 0 0] 29)) q5)); clear hy0 hy1 hy2 hy3 hyf0 hyf1 hyf2 hyf3 hc0 hc1 hc2 hc3 hf0 hf1 hf2 hf3; generalize w1.heap.size = b9 at B9 N49 hsz ⊢; (have hc0 : w3.cell? ⟨w.heap.size, 0, none⟩ = some (.int .i64 0) := (blk_cell B4'.out 0).trans rfl); (have hc1 : w3.cell? ⟨w.heap.size, 1, none⟩ = some (.int .i64 0) := (blk_cell B4'.out 1).trans rfl); (have hc2 : w3.cell? ⟨w.heap.size, 2, none⟩ = some (.string ⟨#[]⟩) := (blk_cell B4'.out 2).trans rfl); (have hc3 : w3.cell? ⟨w.heap.size, 3, none⟩ = some (.slice none 0 0) := (blk_cell B4'.out 3).trans rfl); (have hf0 := blk_frozen B4'.out 0); (have hf1 := blk_frozen B4'.out 1); (have hf2 := blk_frozen B4'.out 2); (have hf3 := blk_frozen B4'.out 3); (have hd0 : w3.cell? ⟨b9, 0, none⟩ = some (.int .i64 2) := (blk_cell B9.out 0).trans rfl); (have hd1 : w3.cell? ⟨b9, 1, none⟩ = some (.int .i64 0) := (blk_cell B9.out 1).trans rfl); (have hd2 : w3.cell? ⟨b9, 2, none⟩ = some (.string ⟨#[]⟩) := (blk_cell B9.out 2).trans rfl); (have hd3 : w3.cell? ⟨b9, 3, none⟩ = some (.slice none 0 0) := (blk_cell B9.out 3).trans rfl); (have hg2 := blk_frozen B9.out 2); (have hn1 := N49.out); (have hn2 := N49.out.symm); (have hcv := Kd.C_string (P := Try.prog) (c := c5) Try.underlying31 Try.underlying5 Try.underlying9 (Kd.C_below q1 q4))))
  have B4s := blk_far B4'.out (p := ⟨b9, 2, none⟩) N49.out (.string (strOfNums o))
  refine value_end (w := w) (ok := true) ?_ ?_ (st4_blk B4s (.int .i64 2) (.int .i64 0) (.string (strOfNums o)) (.slice none 0 0)) ?_
  · rfl
  · rfl
  exact ⟨.slice none 0 0, rfl, Kd.R_nil _ _ _ _ _, RdS.kept Q3.out (st4_kept ((Kept.refl w3 (fun k => k = w.heap.size ∨ k = b9)).setCell (p := ⟨b9, 2, none⟩) (.inl (.inr rfl)) _) (.inl (.inl rfl)) _ _ _ _) (fun e_ => by have := HGL.out; have := hsz.out; rcases e_ with e_ | e_ <;> omega), st4_below (Q4.out.setCell (p := ⟨b9, 2, none⟩) (Nat.le_trans HB.out.size hsz.out) _) HB.out.size _ _ _ _, st4_kept (K'.out.setCell (p := ⟨b9, 2, none⟩) (.inr hsz.out) _) (.inr (Nat.le_refl _)) _ _ _ _⟩
theorem info29E : (Try.prog.info? 29).map (fun i => (i.zero, i.size, i.bytes)) = some (some (.agg #[(.int .i64 0), (.int .i64 0), (.string ⟨#[]⟩), (.slice none 0 0)]), 4, 56) := by kernel_rfl
def zV : S29 := ⟨0, 0, ⟨#[]⟩, []⟩
mutual
def rvalue : Nat → List Int → Int → Option (S29 × Bool × List Int)
  | 0, _, _ => none
  | k + 1, l, m => if (rheadS l).2.2.1 = false then some (zV, false, (rheadS l).2.2.2) else if m = 0 then some (zV, false, (rheadS l).2.2.2)
      else if (rheadS l).1 = 1 then ((codec_integer.f (rheadS l).2.1).bind fun i => some (⟨1, i, ⟨#[]⟩, []⟩, true, (rheadS l).2.2.2))
      else if (rheadS l).1 = 2 then (if (takeS (rheadS l).2.1 (rheadS l).2.2.2).2.1 = true then some (⟨2, 0, strOfNums (takeS (rheadS l).2.1 (rheadS l).2.2.2).1, []⟩, true, (takeS (rheadS l).2.1 (rheadS l).2.2.2).2.2) else some (zV, false, (takeS (rheadS l).2.1 (rheadS l).2.2.2).2.2))
      else if (rheadS l).1 = 3 then rlist k (rheadS l).2.2.2 (rheadS l).2.1 m []
      else some (zV, false, (rheadS l).2.2.2)
def rlist : Nat → List Int → Int → Int → List S29 → Option (S29 × Bool × List Int)
  | 0, _, _, _, _ => none
  | k + 1, l, n, m, acc => if n > 0 then ((rvalue k l (wrap64 (m - 1))).bind fun x => if x.2.1 = true then (if acc.length < 2513169434916 then rlist k x.2.2 (n - 1) m (acc ++ [x.1]) else none) else some (zV, false, x.2.2)) else some (⟨3, 0, ⟨#[]⟩, acc⟩, true, l)
end
/-- What value does in k steps. -/
def ValueC (k : Nat) : Prop := ∀ (w0 w : World) (g : Nat) (l : List Int) (m : Int) (hb : Bytes l) (hg : w0.heap.size ≤ g) (hB : Below w0.heap.size w0 w) (hs : RdS w0 w g l) (x : S29) (ok : Bool) (l1 : List Int) (h : rvalue k l m = some (x, ok, l1)),
    Calls Try.prog 34 #[.pointer (some ⟨g, 0, none⟩), .int .i64 m] w fun e w' => ∃ v, e = .returned (.tuple #[.agg #[.int .i64 x.f0, .int .i64 x.f1, .string x.f2, v], .bool ok]) ∧ Kd.R k29 29 w' w0.heap.size (fun k => w.heap.size ≤ k) v x.f3 ∧ RdS w0 w' g l1 ∧ Bytes l1 ∧ Below w0.heap.size w0 w' ∧ Kept w w' (fun k => k = g)
set_option maxHeartbeats 3200000 in
set_option maxRecDepth 100000 in
theorem value_list (w0 w : World) (g : Nat) (l : List Int) (m : Int) (hb : Bytes l) (hg : w0.heap.size ≤ g) (hB : Below w0.heap.size w0 w) (hs : RdS w0 w g l) (n : Int) (l1 : List Int) (hn0 : 0 ≤ n ∧ n < 18446744073709551616) (hb1 : Bytes l1) (hh : Aside0 (rheadS l = (3, n, true, l1))) (hm : ¬ m = 0) (k : Nat) (ih : ∀ j, j < k → ValueC j) (x : S29) (ok : Bool) (l2 : List Int) (hr : rlist k l1 n m [] = some (x, ok, l2)) :
    Calls Try.prog 34 #[.pointer (some ⟨g, 0, none⟩), .int .i64 m] w fun e w' => ∃ v, e = .returned (.tuple #[.agg #[.int .i64 x.f0, .int .i64 x.f1, .string x.f2, v], .bool ok]) ∧ Kd.R k29 29 w' w0.heap.size (fun k => w.heap.size ≤ k) v x.f3 ∧ RdS w0 w' g l2 ∧ Bytes l2 ∧ Below w0.heap.size w0 w' ∧ Kept w w' (fun k => k = g) := by
  have HS := Aside0.mk hs
  have HB := Aside0.mk hB
  have hgl : g < w.heap.size := by obtain ⟨A, c, h, _⟩ := hs; exact blk_lt h
  have HGL := Aside0.mk hgl
  clear hs hB hgl
  have HK0 := Aside0.mk ((Kept.refl w (fun k => k = g)).alloc (.cells #[.int .i64 0, .int .i64 0, .string ⟨#[]⟩, .slice none 0 0] 29))
  have HB0 := Aside0.mk (HB.out.alloc HB.out.size (.cells #[.int .i64 0, .int .i64 0, .string ⟨#[]⟩, .slice none 0 0] 29))
  have HS0 : Aside0 (RdS w0 (w.alloc (.cells #[.int .i64 0, .int .i64 0, .string ⟨#[]⟩, .slice none 0 0] 29)) g l) := ⟨by obtain ⟨A, c, h, h2⟩ := HS.out; exact ⟨A, c, blk_alloc h _, h2⟩⟩
  have b0 : (m == 0) = false := beq_eq_false_iff_ne.2 hm
  have HN := Aside0.mk hn0
  have HB1 := Aside0.mk hb1
  have HRL := Aside0.mk hr
  clear hm hn0 hb1 hr
  go_enter Try.func34, Try.ntmps34
  go_wp2_with (first | (go_at_call 36; (refine (reader_head.calls w0 _ g l hb hg HB0.out HS0.out).mono ?_); rintro e w1 ⟨rfl, p3, p4, p5⟩; rw [hh.out] at p3 ⊢; dsimp only at p3 ⊢; (have P3 := Aside0.mk p3); (have P4 := Aside0.mk p4); (have P5 := Aside0.mk p5); clear p3 p4 p5; (have B4 := Aside0.mk (blk_kept (blk_new w _) P5.out (fun e_ => Nat.ne_of_gt HGL.out e_))); (have hc0 : w1.cell? ⟨w.heap.size, 0, none⟩ = some (.int .i64 0) := (blk_cell B4.out 0).trans rfl); (have hc1 : w1.cell? ⟨w.heap.size, 1, none⟩ = some (.int .i64 0) := (blk_cell B4.out 1).trans rfl); (have hc2 : w1.cell? ⟨w.heap.size, 2, none⟩ = some (.string ⟨#[]⟩) := (blk_cell B4.out 2).trans rfl); (have hc3 : w1.cell? ⟨w.heap.size, 3, none⟩ = some (.slice none 0 0) := (blk_cell B4.out 3).trans rfl); (have hf0 := blk_frozen B4.out 0); (have hf1 := blk_frozen B4.out 1); (have hf2 := blk_frozen B4.out 2); (have hf3 := blk_frozen B4.out 3); (have BY := Aside0.mk (blk_alloc B4.out (.cells #[.int .i64 3, .int .i64 0, .string ⟨#[]⟩, .slice none 0 0] 29))); (have hy0 : (w1.alloc (.cells #[.int .i64 3, .int .i64 0, .string ⟨#[]⟩, .slice none 0 0] 29)).cell? ⟨w.heap.size, 0, none⟩ = some (.int .i64 0) := (blk_cell BY.out 0).trans rfl); (have hy1 : (w1.alloc (.cells #[.int .i64 3, .int .i64 0, .string ⟨#[]⟩, .slice none 0 0] 29)).cell? ⟨w.heap.size, 1, none⟩ = some (.int .i64 0) := (blk_cell BY.out 1).trans rfl); (have hy2 : (w1.alloc (.cells #[.int .i64 3, .int .i64 0, .string ⟨#[]⟩, .slice none 0 0] 29)).cell? ⟨w.heap.size, 2, none⟩ = some (.string ⟨#[]⟩) := (blk_cell BY.out 2).trans rfl); (have hy3 : (w1.alloc (.cells #[.int .i64 3, .int .i64 0, .string ⟨#[]⟩, .slice none 0 0] 29)).cell? ⟨w.heap.size, 3, none⟩ = some (.slice none 0 0) := (blk_cell BY.out 3).trans rfl); (have hyf0 := blk_frozen BY.out 0); (have hyf1 := blk_frozen BY.out 1); (have hyf2 := blk_frozen BY.out 2); (have hyf3 := blk_frozen BY.out 3)))
  have N49 := Aside0.mk (Nat.ne_of_lt (blk_lt B4.out))
  have hsz := Aside0.mk (show w.heap.size ≤ w1.heap.size from Nat.le_of_lt (blk_lt B4.out))
  have B9 := Aside0.mk (blk_new w1 (.cells #[.int .i64 3, .int .i64 0, .string ⟨#[]⟩, .slice none 0 0] 29))
  have B4' := Aside0.mk (blk_alloc B4.out (.cells #[.int .i64 3, .int .i64 0, .string ⟨#[]⟩, .slice none 0 0] 29))
  have K' := Aside0.mk ((Kept.transE HK0.out P5.out).alloc (.cells #[.int .i64 3, .int .i64 0, .string ⟨#[]⟩, .slice none 0 0] 29))
  have L' := Aside0.mk (P4.out.alloc P4.out.size (.cells #[.int .i64 3, .int .i64 0, .string ⟨#[]⟩, .slice none 0 0] 29))
  have S' : Aside0 (RdS w0 (w1.alloc (.cells #[.int .i64 3, .int .i64 0, .string ⟨#[]⟩, .slice none 0 0] 29)) g l1) := ⟨by obtain ⟨A, c, h, h2⟩ := P3.out; exact ⟨A, c, blk_alloc h _, h2⟩⟩
  clear hy0 hy1 hy2 hy3 hyf0 hyf1 hyf2 hyf3 hc0 hc1 hc2 hc3 hf0 hf1 hf2 hf3 BY P3 P4 P5 B4 HB0 HS0 HK0
  generalize w1.heap.size = b9 at B9 N49 hsz ⊢
  generalize w1.alloc (.cells #[.int .i64 3, .int .i64 0, .string ⟨#[]⟩, .slice none 0 0] 29) = W3 at B9 B4' K' L' S' ⊢
  go_loopg [7] k (fun kq v7 w' => ∃ (acc : List S29) (ln : List Int) (q : Int) (v : Value), v7 = .int .u64 q ∧ Aside0 (0 ≤ q ∧ q < 18446744073709551616) ∧ Aside0 (rlist kq ln q m acc = some (x, ok, l2)) ∧ Aside0 (kq ≤ k) ∧ Aside0 (Bytes ln) ∧ Aside0 (RdS w0 w' g ln) ∧ Aside0 (Kd.R k29 29 w' w0.heap.size (fun k => w.heap.size ≤ k ∧ k ≠ w.heap.size ∧ k ≠ b9) v acc) ∧ Aside0 (w'.heap[w.heap.size]? = some (.cells #[.int .i64 0, .int .i64 0, .string ⟨#[]⟩, .slice none 0 0] 29 (0, 0))) ∧ Aside0 (w'.heap[b9]? = some (.cells #[.int .i64 3, .int .i64 0, .string ⟨#[]⟩, v] 29 (0, 0))) ∧ Aside0 (Below w0.heap.size w0 w') ∧ Aside0 (Kept w w' (fun k => k = g)))
  case atStart => exact ⟨[], l1, n, .slice none 0 0, rfl, HN, HRL, ⟨Nat.le_refl _⟩, HB1, S', ⟨Kd.R_nil _ _ _ _ _⟩, B4', B9, L', K'⟩
  case round =>
    clear HRL
    obtain ⟨acc, ln, q, v, rfl, HQ, HA, HK1, HBL, HSR, HO, B4', B9, HBW, HKW⟩ := hrel
    cases gk with
    | zero => exact absurd HA.out (by simp [rlist])
    | succ k1 =>
      have H := HA.out
      clear HA
      simp only [rlist] at H
      obtain ⟨Ab, cb, rfl⟩ := Kd.R_slice HO.out
      have hc0 : wr.cell? ⟨w.heap.size, 0, none⟩ = some (.int .i64 0) := (blk_cell B4'.out 0).trans rfl
      have hc1 : wr.cell? ⟨w.heap.size, 1, none⟩ = some (.int .i64 0) := (blk_cell B4'.out 1).trans rfl
      have hc2 : wr.cell? ⟨w.heap.size, 2, none⟩ = some (.string ⟨#[]⟩) := (blk_cell B4'.out 2).trans rfl
      have hc3 : wr.cell? ⟨w.heap.size, 3, none⟩ = some (.slice none 0 0) := (blk_cell B4'.out 3).trans rfl
      have hf0 := blk_frozen B4'.out 0
      have hf1 := blk_frozen B4'.out 1
      have hf2 := blk_frozen B4'.out 2
      have hf3 := blk_frozen B4'.out 3
      have hd0 : wr.cell? ⟨b9, 0, none⟩ = some (.int .i64 3) := (blk_cell B9.out 0).trans rfl
      have hd1 : wr.cell? ⟨b9, 1, none⟩ = some (.int .i64 0) := (blk_cell B9.out 1).trans rfl
      have hd2 : wr.cell? ⟨b9, 2, none⟩ = some (.string ⟨#[]⟩) := (blk_cell B9.out 2).trans rfl
      have hd3 : wr.cell? ⟨b9, 3, none⟩ = some (.slice Ab acc.length cb) := (blk_cell B9.out 3).trans rfl
      by_cases c0 : q > 0
      · rw [if_pos c0] at H
        have e0 : decide (q > 0) = true := decide_eq_true c0
        have e1 : decide (0 < q) = true := decide_eq_true c0
        obtain ⟨⟨y, yok, ly⟩, A10, H⟩ := Option.bind_eq_some_iff.mp H
        have A1 := Aside0.mk A10
        have e2 : IntKind.u64.wrap (q - 1) = q - 1 := by rw [wuE]; have := HQ.out; omega
        have HQ1 : Aside0 (0 ≤ q - 1 ∧ q - 1 < 18446744073709551616) := ⟨by have := HQ.out; omega⟩
        clear A10 c0
        cases yok with
        | false =>
          rw [if_neg (by simp)] at H
          simp only [Option.some.injEq, Prod.mk.injEq] at H
          obtain ⟨rfl, rfl, rfl⟩ := H
          go_wp2_with (first | (go_at_call 34; (refine (ih k1 (by have := HK1.out; omega) w0 _ g ln (wrap64 (m - 1)) HBL.out hg HBW.out HSR.out y false ly A1.out).mono ?_); rintro e w4 ⟨v4, rfl, r1, r2, r3, r4, r5⟩; obtain ⟨A6, c6, rfl⟩ := Kd.R_slice r1; (have R1 := Aside0.mk r1); (have R2 := Aside0.mk r2); (have R3 := Aside0.mk r3); (have R4 := Aside0.mk r4); (have R5 := Aside0.mk (Kept.transE HKW.out r5)); (have LT4 := Aside0.mk (blk_lt B4'.out)); (have LT9 := Aside0.mk (blk_lt B9.out)); (have LTV := Aside0.mk (Kd.R_lt HO.out)); (have HO2 := Aside0.mk (Kd.R_kept HO.out r5 (fun k hk e_ => by have := HGL.out; have := hk.1; omega))); (have BZ := Aside0.mk (blk_kept B4'.out r5 (fun e_ => Nat.ne_of_gt HGL.out e_))); (have B9' := Aside0.mk (blk_kept B9.out r5 (fun e_ => by have := HGL.out; have := hsz.out; omega))); clear hc0 hc1 hc2 hc3 hf0 hf1 hf2 hf3 hd0 hd1 hd2 hd3 r1 r2 r3 r4 r5; (have BY := Aside0.mk (blk_alloc BZ.out (.cells #[.int .i64 y.f0, .int .i64 y.f1, .string y.f2, .slice A6 y.f3.length c6] 29))); (have hy0 : (w4.alloc (.cells #[.int .i64 y.f0, .int .i64 y.f1, .string y.f2, .slice A6 y.f3.length c6] 29)).cell? ⟨w.heap.size, 0, none⟩ = some (.int .i64 0) := (blk_cell BY.out 0).trans rfl); (have hy1 : (w4.alloc (.cells #[.int .i64 y.f0, .int .i64 y.f1, .string y.f2, .slice A6 y.f3.length c6] 29)).cell? ⟨w.heap.size, 1, none⟩ = some (.int .i64 0) := (blk_cell BY.out 1).trans rfl); (have hy2 : (w4.alloc (.cells #[.int .i64 y.f0, .int .i64 y.f1, .string y.f2, .slice A6 y.f3.length c6] 29)).cell? ⟨w.heap.size, 2, none⟩ = some (.string ⟨#[]⟩) := (blk_cell BY.out 2).trans rfl); (have hy3 : (w4.alloc (.cells #[.int .i64 y.f0, .int .i64 y.f1, .string y.f2, .slice A6 y.f3.length c6] 29)).cell? ⟨w.heap.size, 3, none⟩ = some (.slice none 0 0) := (blk_cell BY.out 3).trans rfl); (have hyf0 := blk_frozen BY.out 0); (have hyf1 := blk_frozen BY.out 1); (have hyf2 := blk_frozen BY.out 2); (have hyf3 := blk_frozen BY.out 3); (have BX := Aside0.mk (blk_alloc B9'.out (.cells #[.int .i64 y.f0, .int .i64 y.f1, .string y.f2, .slice A6 y.f3.length c6] 29))); (have hx3 : (w4.alloc (.cells #[.int .i64 y.f0, .int .i64 y.f1, .string y.f2, .slice A6 y.f3.length c6] 29)).cell? ⟨b9, 3, none⟩ = some (.slice Ab acc.length cb) := (blk_cell BX.out 3).trans rfl)))
          refine value_end (w := w) (ok := false) ?_ ?_ (st4_blk BY.out (.int .i64 0) (.int .i64 0) (.string ⟨#[]⟩) (.slice none 0 0)) ?_
          · rfl
          · rfl
          exact ⟨.slice none 0 0, rfl, Kd.R_nil _ _ _ _ _, RdS.kept R2.out (st4_kept ((Kept.refl w4 (fun k => k = w.heap.size)).alloc _) (.inl rfl) _ _ _ _) (fun e_ => Nat.ne_of_lt HGL.out e_), R3.out, st4_below (R4.out.alloc R4.out.size _) HB.out.size _ _ _ _, st4_kept (R5.out.alloc _) (.inr (Nat.le_refl _)) _ _ _ _⟩
        | true =>
          rw [if_pos rfl] at H
          by_cases c1 : acc.length < 2513169434916
          · rw [if_pos c1] at H
            have LMc := Aside0.mk c1
            have H' := Aside0.mk H
            clear c1 H
            go_wp2_with (first | (go_at_call 34; (refine (ih k1 (by have := HK1.out; omega) w0 _ g ln (wrap64 (m - 1)) HBL.out hg HBW.out HSR.out y true ly A1.out).mono ?_); rintro e w4 ⟨v4, rfl, r1, r2, r3, r4, r5⟩; obtain ⟨A6, c6, rfl⟩ := Kd.R_slice r1; (have R1 := Aside0.mk r1); (have R2 := Aside0.mk r2); (have R3 := Aside0.mk r3); (have R4 := Aside0.mk r4); (have R5 := Aside0.mk (Kept.transE HKW.out r5)); (have LT4 := Aside0.mk (blk_lt B4'.out)); (have LT9 := Aside0.mk (blk_lt B9.out)); (have LTV := Aside0.mk (Kd.R_lt HO.out)); (have HO2 := Aside0.mk (Kd.R_kept HO.out r5 (fun k hk e_ => by have := HGL.out; have := hk.1; omega))); (have BZ := Aside0.mk (blk_kept B4'.out r5 (fun e_ => Nat.ne_of_gt HGL.out e_))); (have B9' := Aside0.mk (blk_kept B9.out r5 (fun e_ => by have := HGL.out; have := hsz.out; omega))); clear hc0 hc1 hc2 hc3 hf0 hf1 hf2 hf3 hd0 hd1 hd2 hd3 r1 r2 r3 r4 r5; (have BY := Aside0.mk (blk_alloc BZ.out (.cells #[.int .i64 y.f0, .int .i64 y.f1, .string y.f2, .slice A6 y.f3.length c6] 29))); (have hy0 : (w4.alloc (.cells #[.int .i64 y.f0, .int .i64 y.f1, .string y.f2, .slice A6 y.f3.length c6] 29)).cell? ⟨w.heap.size, 0, none⟩ = some (.int .i64 0) := (blk_cell BY.out 0).trans rfl); (have hy1 : (w4.alloc (.cells #[.int .i64 y.f0, .int .i64 y.f1, .string y.f2, .slice A6 y.f3.length c6] 29)).cell? ⟨w.heap.size, 1, none⟩ = some (.int .i64 0) := (blk_cell BY.out 1).trans rfl); (have hy2 : (w4.alloc (.cells #[.int .i64 y.f0, .int .i64 y.f1, .string y.f2, .slice A6 y.f3.length c6] 29)).cell? ⟨w.heap.size, 2, none⟩ = some (.string ⟨#[]⟩) := (blk_cell BY.out 2).trans rfl); (have hy3 : (w4.alloc (.cells #[.int .i64 y.f0, .int .i64 y.f1, .string y.f2, .slice A6 y.f3.length c6] 29)).cell? ⟨w.heap.size, 3, none⟩ = some (.slice none 0 0) := (blk_cell BY.out 3).trans rfl); (have hyf0 := blk_frozen BY.out 0); (have hyf1 := blk_frozen BY.out 1); (have hyf2 := blk_frozen BY.out 2); (have hyf3 := blk_frozen BY.out 3); (have BX := Aside0.mk (blk_alloc B9'.out (.cells #[.int .i64 y.f0, .int .i64 y.f1, .string y.f2, .slice A6 y.f3.length c6] 29))); (have hx3 : (w4.alloc (.cells #[.int .i64 y.f0, .int .i64 y.f1, .string y.f2, .slice A6 y.f3.length c6] 29)).cell? ⟨b9, 3, none⟩ = some (.slice Ab acc.length cb) := (blk_cell BX.out 3).trans rfl)) | ((with_reducible refine gate_dst (N := 69) rfl ?_); (have HO5 := Aside0.mk (Kd.R_alloc HO2.out (.cells #[.int .i64 y.f0, .int .i64 y.f1, .string y.f2, .slice A6 y.f3.length c6] 29))); (have R15 := Aside0.mk (Kd.R_alloc R1.out (.cells #[.int .i64 y.f0, .int .i64 y.f1, .string y.f2, .slice A6 y.f3.length c6] 29))); (have HB5 := Aside0.mk (R4.out.alloc R4.out.size (.cells #[.int .i64 y.f0, .int .i64 y.f1, .string y.f2, .slice A6 y.f3.length c6] 29))); (have HK5 := Aside0.mk (R5.out.alloc (.cells #[.int .i64 y.f0, .int .i64 y.f1, .string y.f2, .slice A6 y.f3.length c6] 29))); (have S5 : Aside0 (RdS w0 (w4.alloc (.cells #[.int .i64 y.f0, .int .i64 y.f1, .string y.f2, .slice A6 y.f3.length c6] 29)) g ly) := ⟨by obtain ⟨A, c, h, h2⟩ := R2.out; exact ⟨A, c, blk_alloc h _, h2⟩⟩); clear HO2 R1 R2 R4 R5 BZ B9' hy0 hy1 hy2 hy3 hyf0 hyf1 hyf2 hyf3; generalize w4.alloc (.cells #[.int .i64 y.f0, .int .i64 y.f1, .string y.f2, .slice A6 y.f3.length c6] 29) = W5 at BY BX hx3 HO5 R15 HB5 HK5 S5 ⊢) | ((with_reducible refine gate_builtin (b := .append) (xs := #[.tmp 67, .tmp 69]) rfl ?_); (try (refine gate_guard (by rfl) ?_; dsimp only)); at_builtin; refine Kd.R_append k29 (w0 := w0) w0.heap.size rfl (.tmp 67) (.tmp 69) 27 29 (.agg #[(.int .i64 0), (.int .i64 0), (.string ⟨#[]⟩), (.slice none 0 0)]) 56 rfl Try.underlying27 info29E rfl (by decide) (by omega) (.slice Ab acc.length cb) acc y [.int .i64 y.f0, .int .i64 y.f1, .string y.f2, .slice A6 y.f3.length c6] (fun k => w.heap.size ≤ k ∧ k ≠ w.heap.size ∧ k ≠ b9) (fun k => (w.heap.size ≤ k ∧ k ≠ w.heap.size ∧ k ≠ b9) ∧ some k ≠ (Value.slice Ab acc.length cb).ownBlock) rfl rfl ?aP (fun _ hk => hk) ?aF ?aO ?aB ?aS ?aL ?_; (case aP => exact k29_mkM _ _ _ y (Kd.R_mono R15.out (fun k hk => by have h1 := LT4.out; have h2 := LT9.out; have h3 := HKW.out.1; exact ⟨⟨by omega, by omega, by omega⟩, fun e_ => by have := LTV.out k e_.symm; omega⟩))); (case aB => exact HB5.out); (case aF => intro k hk; have h1 := blk_lt BY.out; have h2 := blk_lt BX.out; exact ⟨by omega, by omega, by omega⟩); (case aO => exact HO5.out); (case aS => exact HB5.out.size); (case aL => have := LMc.out; omega); intro v7 w6 ho hb6 hg6 hat6; obtain ⟨A7, c7, rfl⟩ := Kd.R_slice ho; (have HO3 := Aside0.mk ho); (have HB6 := Aside0.mk hb6); (have BZ6 := Aside0.mk (blk_grown BY.out hg6 (Kd.R_away HO5.out (fun _ hk => hk.2.1)))); (have B96 := Aside0.mk (blk_grown BX.out hg6 (Kd.R_away HO5.out (fun _ hk => hk.2.2)))); (have HK6 := Aside0.mk (Kept.of_grown hg6 HK5.out (fun k e_ => .inr ((HO5.out.1 k e_).1)))); (have S6 : Aside0 (RdS w0 w6 g ly) := ⟨by obtain ⟨A, c, h, h2⟩ := S5.out; exact ⟨A, c, blk_grown h hg6 (Kd.R_away HO5.out (fun k hk e_ => by have := HGL.out; have := hk.1; omega)), h2⟩⟩); clear hx3 ho hb6 hg6 hat6 HO5 R15 HB5 HK5 S5 BY BX; (have hd3 : w6.cell? ⟨b9, 3, none⟩ = some (.slice Ab acc.length cb) := (blk_cell B96.out 3).trans rfl); (have hdf3 := blk_frozen B96.out 3)))
            go_roundg k1
            case measure => have := HK1.out; omega
            case rel => exact ⟨acc ++ [y], ly, q - 1, .slice A7 (acc ++ [y]).length c7, rfl, HQ1, H', ⟨by have := HK1.out; omega⟩, R3, ⟨RdS.kept S6.out ((Kept.refl w6 (fun k => k = b9)).setCell (p := ⟨b9, 3, none⟩) (.inl rfl) _) (fun e_ => by have := HGL.out; have := hsz.out; omega)⟩, ⟨Kd.R_kept HO3.out ((Kept.refl w6 (fun k => k = b9)).setCell (p := ⟨b9, 3, none⟩) (.inl rfl) _) (fun k hk e_ => hk.2.2 e_)⟩, ⟨blk_far BZ6.out (p := ⟨b9, 3, none⟩) N49.out _⟩, ⟨blk_put B96.out 3 _ (by rw [List.length_append]; rfl)⟩, ⟨HB6.out.setCell (p := ⟨b9, 3, none⟩) (Nat.le_trans HB.out.size hsz.out) _⟩, ⟨HK6.out.setCell (p := ⟨b9, 3, none⟩) (.inr hsz.out) _⟩⟩
          · rw [if_neg c1] at H
            cases H
      · rw [if_neg c0] at H
        have e0 : decide (q > 0) = false := decide_eq_false c0
        have e1 : decide (0 < q) = false := decide_eq_false c0
        clear c0
        simp only [Option.some.injEq, Prod.mk.injEq] at H
        obtain ⟨rfl, rfl, rfl⟩ := H
        go_wp2
        refine value_end (w := w) (ok := true) ?_ ?_ (st4_blk B4'.out (.int .i64 3) (.int .i64 0) (.string ⟨#[]⟩) (.slice Ab acc.length cb)) ?_
        · rfl
        · rfl
        exact ⟨.slice Ab acc.length cb, rfl, Kd.R_mono (Kd.R_kept HO.out (st4_kept (Kept.refl wr (fun k => k = w.heap.size)) (.inl rfl) _ _ _ _) (fun k hk e_ => hk.2.1 e_)) (fun _ hk => hk.1), RdS.kept HSR.out (st4_kept (Kept.refl wr (fun k => k = w.heap.size)) (.inl rfl) _ _ _ _) (fun e_ => Nat.ne_of_lt HGL.out e_), HBL.out, st4_below HBW.out HB.out.size _ _ _ _, st4_kept HKW.out (.inr (Nat.le_refl _)) _ _ _ _⟩
theorem Bytes.drop {l : List Int} (h : Bytes l) (n : Nat) : Bytes (l.drop n) := fun x hx => h x (List.mem_of_mem_drop hx)
theorem rhead_facts (l : List Int) (hb : Bytes l) : Bytes (rheadS l).2.2.2 ∧ 0 ≤ (rheadS l).2.1 ∧ (rheadS l).2.1 < 18446744073709551616 := by
  cases l with
  | nil => exact ⟨hb, by decide, by decide⟩
  | cons x r =>
    have hr : Bytes r := fun y hy => hb y (List.mem_cons_of_mem _ hy)
    have hx := hb x List.mem_cons_self
    simp only [rheadS]
    split
    · exact ⟨hr, by dsimp only; omega, by dsimp only; omega⟩
    · split
      · exact ⟨hr, by dsimp only; omega, by dsimp only; omega⟩
      · split
        · exact ⟨hr.drop _, by dsimp only; omega, by dsimp only; omega⟩
        · have hlen : (r.take (x % 64 - 55).toNat).length ≤ 8 := by rw [List.length_take]; omega
          have hbt : Bytes (r.take (x % 64 - 55).toNat) := fun y hy => hr y (List.mem_of_mem_take hy)
          refine ⟨hr.drop _, foldB_range _ hbt 0 (Int.le_refl _), ?_⟩
          have h1 := foldB_bound _ hbt 0 1 (Int.le_refl _) (by omega)
          rw [Int.one_mul] at h1
          have h2 : (256 : Int) ^ (r.take (x % 64 - 55).toNat).length ≤ 18446744073709551616 := by
            generalize (r.take (x % 64 - 55).toNat).length = q at hlen
            have : q = 0 ∨ q = 1 ∨ q = 2 ∨ q = 3 ∨ q = 4 ∨ q = 5 ∨ q = 6 ∨ q = 7 ∨ q = 8 := by omega
            rcases this with e | e | e | e | e | e | e | e | e <;> rw [e] <;> decide
          exact Int.lt_of_lt_of_le h1 h2
theorem take_bytes (n : Int) (l : List Int) (hb : Bytes l) : Bytes (takeS n l).2.2 := by
  unfold takeS
  split
  · exact hb
  · exact hb.drop _
theorem value_all : ∀ k, ValueC k := by
  intro k
  induction k using Nat.strongRecOn with
  | _ k ih =>
  intro w0 w g l m hb hg hB hs x ok l1 h
  cases k with
  | zero => simp [rvalue] at h
  | succ k =>
  have hf := rhead_facts l hb
  simp only [rvalue] at h
  have fin0 : ∀ (l2 : List Int), Bytes l2 → (∀ (Q : Prop), Q → Q) → (Calls Try.prog 34 #[.pointer (some ⟨g, 0, none⟩), .int .i64 m] w fun e w' => ∃ v, e = .returned (.tuple #[.agg #[.int .i64 0, .int .i64 0, .string ⟨#[]⟩, v], .bool false]) ∧ Kd.R k29 29 w' w.heap.size (fun k => w.heap.size ≤ k) v [] ∧ RdS w0 w' g l2 ∧ Below w0.heap.size w0 w' ∧ Kept w w' (fun k => k = g)) →
      Calls Try.prog 34 #[.pointer (some ⟨g, 0, none⟩), .int .i64 m] w fun e w' => ∃ v, e = .returned (.tuple #[.agg #[.int .i64 zV.f0, .int .i64 zV.f1, .string zV.f2, v], .bool false]) ∧ Kd.R k29 29 w' w0.heap.size (fun k => w.heap.size ≤ k) v zV.f3 ∧ RdS w0 w' g l2 ∧ Bytes l2 ∧ Below w0.heap.size w0 w' ∧ Kept w w' (fun k => k = g) := fun l2 hb2 _ hc => hc.mono fun e w' ⟨v, h1, h2, h3, h4, h5⟩ => ⟨v, h1, Kd.R_lower h2 hB.size, h3, hb2, h4, h5⟩
  by_cases c1 : (rheadS l).2.2.1 = false
  · rw [if_pos c1] at h
    simp only [Option.some.injEq, Prod.mk.injEq] at h
    obtain ⟨rfl, rfl, rfl⟩ := h
    exact fin0 _ hf.1 (fun _ h => h) (value_fail0 w0 w g l m hb hg hB hs (rheadS l).1 (rheadS l).2.1 _ ⟨by rw [← c1]⟩)
  rw [if_neg c1] at h
  have c1 : (rheadS l).2.2.1 = true := by simpa using c1
  by_cases c2 : m = 0
  · rw [if_pos c2] at h
    simp only [Option.some.injEq, Prod.mk.injEq] at h
    obtain ⟨rfl, rfl, rfl⟩ := h
    exact fin0 _ hf.1 (fun _ h => h) (value_fail1 w0 w g l m hb hg hB hs (rheadS l).1 (rheadS l).2.1 _ ⟨by rw [← c1]⟩ c2)
  rw [if_neg c2] at h
  by_cases k1 : (rheadS l).1 = 1
  · rw [if_pos k1] at h
    obtain ⟨i, hi, hx⟩ := Option.bind_eq_some_iff.1 h
    simp only [Option.some.injEq, Prod.mk.injEq] at hx
    obtain ⟨rfl, rfl, rfl⟩ := hx
    refine (value_int w0 w g l m hb hg hB hs (rheadS l).2.1 (rheadS l).2.2.2 i ⟨by rw [← c1, ← k1]⟩ c2 ⟨hi⟩).mono fun e w' ⟨v, h1, h2, h3, h4, h5⟩ => ?_
    exact ⟨v, h1.1, Kd.R_lower h2 hB.size, h3, hf.1, h4, h5⟩
  rw [if_neg k1] at h
  by_cases k2 : (rheadS l).1 = 2
  · rw [if_pos k2] at h
    by_cases t : (takeS (rheadS l).2.1 (rheadS l).2.2.2).2.1 = true
    · rw [if_pos t] at h
      simp only [Option.some.injEq, Prod.mk.injEq] at h
      obtain ⟨rfl, rfl, rfl⟩ := h
      refine (value_text1 w0 w g l m hb hg hB hs (rheadS l).2.1 (rheadS l).2.2.2 (takeS (rheadS l).2.1 (rheadS l).2.2.2).1 (takeS (rheadS l).2.1 (rheadS l).2.2.2).2.2 hf.2.1 ⟨by rw [← c1, ← k2]⟩ c2 ⟨by rw [← t]⟩).mono fun e w' ⟨v, h1, h2, h3, h4, h5⟩ => ?_
      exact ⟨v, h1, Kd.R_lower h2 hB.size, h3, take_bytes _ _ hf.1, h4, h5⟩
    · rw [if_neg t] at h
      simp only [Option.some.injEq, Prod.mk.injEq] at h
      obtain ⟨rfl, rfl, rfl⟩ := h
      have t : (takeS (rheadS l).2.1 (rheadS l).2.2.2).2.1 = false := by simpa using t
      exact fin0 _ (take_bytes _ _ hf.1) (fun _ h => h) (value_text0 w0 w g l m hb hg hB hs (rheadS l).2.1 (rheadS l).2.2.2 (takeS (rheadS l).2.1 (rheadS l).2.2.2).1 _ hf.2.1 ⟨by rw [← c1, ← k2]⟩ c2 ⟨by rw [← t]⟩)
  rw [if_neg k2] at h
  by_cases k3 : (rheadS l).1 = 3
  · rw [if_pos k3] at h
    exact value_list w0 w g l m hb hg hB hs (rheadS l).2.1 (rheadS l).2.2.2 hf.2 hf.1 ⟨by rw [← c1, ← k3]⟩ c2 k (fun j hj => ih j (by omega)) x ok l1 h
  · rw [if_neg k3] at h
    simp only [Option.some.injEq, Prod.mk.injEq] at h
    obtain ⟨rfl, rfl, rfl⟩ := h
    exact fin0 _ hf.1 (fun _ h => h) (value_fail2 w0 w g l m hb hg hB hs (rheadS l).1 (rheadS l).2.1 _ ⟨by rw [← c1]⟩ c2 k1 k2 k3)

end Go.Proofs.Ytploigkfnkgjiaa.PC
